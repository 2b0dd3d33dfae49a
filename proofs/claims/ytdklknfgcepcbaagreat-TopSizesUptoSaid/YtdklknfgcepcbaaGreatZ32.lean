/- Texts of this proof, laid together by wip/tools/pack.py: WTab, WFour, WFootNe, WAt, WRepsOne, WInv, WInvWords, WGuard, X0, XsuperUp, S, E0, E1, E2. -/
import Derived.Test.YtdklknfgcepcbaaGreatZ2
import Derived.Test.YtdklknfgcepcbaaGreatZ1
import Derived.Test.YtdklknfgcepcbaaGreatProg
import Derived.Below
import Derived.Deep.Draws
import Derived.Deep.AppendLies
import Derived.Maps.AppendAt
import Derived.OwnWalk
import Derived.Laws.BytesArg
import Derived.Laws.MakeOwn
import Derived.Laws.OwnMore
import Derived.Deep.OwnRows
import Derived.Tactics
import Derived.Lib.ConvBytes
import Derived.Laws.Slices
import Derived.WalkKit
import Derived.KernelRfl
import Derived.RowKit3
import Derived.Deep.LoopGhost
import Derived.Deep.QuietTactic
import Derived.BigQuiet
import Derived.WideLaws
import Derived.Deep.DeepCutAuto
import Derived.Deep.CutBlock
import Derived.Deep.RegionHeld3
import Derived.Laws.Rows
import Derived.Lib.AppendStr
import Derived.ArgAppend
import Derived.Laws.IdiomCopy
import Derived.OrdersHeld
import Derived.Laws.BitsLemmas
import Derived.RowKit
import Derived.Test.YtdklknfgcepcbaaGreatZ6
import Derived.Shelf.Abstract
import Derived.Test.YtdklknfgcepcbaaGreatZ9
section
namespace Go.Proofs.YtdklknfgcepcbaaGreatW.PrintLast
open Go.Proofs.YtdklknfgcepcbaaGreatW.PrintWords (Aside0)
section
variable {md : Region.Mode} {ops : Array Oper} {T : Bool × List (List Nat × List Nat)} {l l' li lj lk : Array Bool} {ds : List Nat} {i j k : Nat}
end
end Go.Proofs.YtdklknfgcepcbaaGreatW.PrintLast
end
section
namespace Go.Proofs.YtdklknfgcepcbaaGreatW.PrintLast
section
variable {P : Program} {ops : Array Oper} {Q : Exit → Act → World → Prop} {md : Region.Mode} {S : World → Prop} {ds : List Nat} {T : Bool × List (List Nat × List Nat)}
end
end Go.Proofs.YtdklknfgcepcbaaGreatW.PrintLast
end
section
namespace Go.Proofs.YtdklknfgcepcbaaGreatW.PrintWords
open Go.RowKit
namespace Kd
section
variable {α : Type} {d : Kd α} {W : World} {g n : Nat} {S ok : Nat → Prop} {A : Option Addr} {ad : Addr} {xs : List α}
end
end Kd
end Go.Proofs.YtdklknfgcepcbaaGreatW.PrintWords
end
section
namespace Go.Proofs.YtdklknfgcepcbaaGreatW.PrintWords
open Go.RowKit
section
variable {w w' u : World} {m B g : Nat} {o : Obj} {row : Option Nat} {S : Nat → Prop} {a : Addr} {v : Value}
theorem cell_at (hq : w.drewN m = w') (h : w.cell? a = some v) : w'.cell? a = some v := by subst hq; exact h
end
namespace Kd
section
variable {α : Type} {d : Kd α} {e base n m : Nat} {ok : Nat → Prop} {w w' : World} {v : Value} {A : Option Addr} {xs : List α}
end
end Kd
end Go.Proofs.YtdklknfgcepcbaaGreatW.PrintWords
end
section
namespace Go.Proofs.YtdklknfgcepcbaaGreatW.PrintWords
theorem Reps.one {α : Type} {R : α → List Value → Prop} {ps : List α} {cs : List Value} {p : α} {v : Value} (hp : R p [v]) (h : Reps R 1 ps cs) : Reps R 1 (p :: ps) (v :: cs) := by
  refine ⟨by simp [h.1], fun j q hq => ?_⟩
  cases j with
  | zero =>
    simp only [List.getElem?_cons_zero, Option.some.injEq] at hq
    subst hq
    simpa using hp
  | succ j =>
    simp only [List.getElem?_cons_succ] at hq
    have h1 := h.2 j q hq
    simpa [Nat.mul_one] using h1
theorem Reps.front {α : Type} {R : α → List Value → Prop} {size : Nat} {ps : List α} {cs c all : List Value} {p : α} (hp : R p c) (hc : c.length = size) (h : Reps R size ps cs) (ha : c ++ cs = all) : Reps R size (p :: ps) all := by
  subst ha
  refine ⟨by rw [List.length_append, hc, h.1, List.length_cons, Nat.succ_mul, Nat.add_comm], fun j q hq => ?_⟩
  cases j with
  | zero =>
    simp only [List.getElem?_cons_zero, Option.some.injEq] at hq
    subst hq
    rw [Nat.zero_mul, List.drop_zero, List.take_append_of_le_length (by omega), List.take_of_length_le (by omega)]
    exact hp
  | succ j =>
    simp only [List.getElem?_cons_succ] at hq
    have h1 := h.2 j q hq
    rw [Nat.succ_mul, List.drop_append, List.drop_of_length_le (by rw [hc]; exact Nat.le_add_left _ _), List.nil_append, hc, Nat.add_sub_cancel]
    exact h1
theorem Reps.c2 {α : Type} {R : α → List Value → Prop} {ps : List α} {cs : List Value} {p : α} {va vb : Value} (hp : R p [va, vb]) (h : Reps R 2 ps cs) : Reps R 2 (p :: ps) (va :: vb :: cs) := Reps.front hp rfl h rfl
theorem Reps.c3 {α : Type} {R : α → List Value → Prop} {ps : List α} {cs : List Value} {p : α} {va vb vc : Value} (hp : R p [va, vb, vc]) (h : Reps R 3 ps cs) : Reps R 3 (p :: ps) (va :: vb :: vc :: cs) := Reps.front hp rfl h rfl
theorem Reps.c4 {α : Type} {R : α → List Value → Prop} {ps : List α} {cs : List Value} {p : α} {va vb vc vd : Value} (hp : R p [va, vb, vc, vd]) (h : Reps R 4 ps cs) : Reps R 4 (p :: ps) (va :: vb :: vc :: vd :: cs) := Reps.front hp rfl h rfl
theorem Reps.c5 {α : Type} {R : α → List Value → Prop} {ps : List α} {cs : List Value} {p : α} {va vb vc vd ve : Value} (hp : R p [va, vb, vc, vd, ve]) (h : Reps R 5 ps cs) : Reps R 5 (p :: ps) (va :: vb :: vc :: vd :: ve :: cs) := Reps.front hp rfl h rfl
theorem Reps.c6 {α : Type} {R : α → List Value → Prop} {ps : List α} {cs : List Value} {p : α} {va vb vc vd ve vf : Value} (hp : R p [va, vb, vc, vd, ve, vf]) (h : Reps R 6 ps cs) : Reps R 6 (p :: ps) (va :: vb :: vc :: vd :: ve :: vf :: cs) := Reps.front hp rfl h rfl
theorem Reps.c7 {α : Type} {R : α → List Value → Prop} {ps : List α} {cs : List Value} {p : α} {va vb vc vd ve vf vg : Value} (hp : R p [va, vb, vc, vd, ve, vf, vg]) (h : Reps R 7 ps cs) : Reps R 7 (p :: ps) (va :: vb :: vc :: vd :: ve :: vf :: vg :: cs) := Reps.front hp rfl h rfl
theorem Reps.c8 {α : Type} {R : α → List Value → Prop} {ps : List α} {cs : List Value} {p : α} {va vb vc vd ve vf vg vh : Value} (hp : R p [va, vb, vc, vd, ve, vf, vg, vh]) (h : Reps R 8 ps cs) : Reps R 8 (p :: ps) (va :: vb :: vc :: vd :: ve :: vf :: vg :: vh :: cs) := Reps.front hp rfl h rfl
theorem Reps.c9 {α : Type} {R : α → List Value → Prop} {ps : List α} {cs : List Value} {p : α} {va vb vc vd ve vf vg vh vi : Value} (hp : R p [va, vb, vc, vd, ve, vf, vg, vh, vi]) (h : Reps R 9 ps cs) : Reps R 9 (p :: ps) (va :: vb :: vc :: vd :: ve :: vf :: vg :: vh :: vi :: cs) := Reps.front hp rfl h rfl
theorem Reps.c10 {α : Type} {R : α → List Value → Prop} {ps : List α} {cs : List Value} {p : α} {va vb vc vd ve vf vg vh vi vj : Value} (hp : R p [va, vb, vc, vd, ve, vf, vg, vh, vi, vj]) (h : Reps R 10 ps cs) : Reps R 10 (p :: ps) (va :: vb :: vc :: vd :: ve :: vf :: vg :: vh :: vi :: vj :: cs) := Reps.front hp rfl h rfl
end Go.Proofs.YtdklknfgcepcbaaGreatW.PrintWords
end
section
namespace Go.Proofs.YtdklknfgcepcbaaGreatW.PrintLast
def up (b : Nat → Bool) (i : Nat) : Nat → Bool := fun j => if j = i then true else b j
section
variable {P : Program} {ops : Array Oper} {Q : Exit → Act → World → Prop} {md : Region.Mode} {T : Bool × List (List Nat × List Nat)} {B : List Nat} {O : List Nat} {b : Nat → Bool} {i j n : Nat}
end
end Go.Proofs.YtdklknfgcepcbaaGreatW.PrintLast
end
section
namespace Go.Proofs.YtdklknfgcepcbaaGreatW.PrintWords
open Go.RowKit
end Go.Proofs.YtdklknfgcepcbaaGreatW.PrintWords
namespace Go.Proofs.YtdklknfgcepcbaaGreatW.PrintLast
section
variable {ops : Array Oper} {a : Act} {o og : Oper} {g : Nat} {t : Tmp} {u : Bool}
end
end Go.Proofs.YtdklknfgcepcbaaGreatW.PrintLast
end
section
namespace Go.Proofs.YtdklknfgcepcbaaGreatW.PrintWords
open Go.RowKit
section
variable {P : Program} {ops : Array Oper} {rest : List Oper} {o : Oper} {a : Act} {Q : Exit → Act → World → Prop} {W : World}
end
end Go.Proofs.YtdklknfgcepcbaaGreatW.PrintWords
end
section
namespace Go.Proofs.YtdklknfgcepcbaaGreat.X
open Go.RowKit Go.Proofs.YtdklknfgcepcbaaGreatW.PrintWords Go.Proofs.YtdklknfgcepcbaaGreatW.PrintLast Go.Proofs.YtdklknfgcepcbaaGreatW.PrintMore
set_option linter.unusedVariables false
set_option linter.unusedSimpArgs false
def errW : Option Int → Value
  | none => .nilIface
  | some c => .iface 0 (.int .i64 c)
theorem errW_none : errW none = .nilIface := rfl
theorem errW_some (c : Int) : errW (some c) = .iface 0 (.int .i64 c) := rfl
theorem info3 : (Tryz.prog.info? 3).map (fun i => (i.zero, i.size, i.bytes)) = some (some (.int .i64 0), 1, 8) := by kernel_rfl
end Go.Proofs.YtdklknfgcepcbaaGreat.X
end
section
namespace Go.Proofs.YtdklknfgcepcbaaGreat.X
open Go.RowKit Go.Proofs.YtdklknfgcepcbaaGreatW.PrintWords Go.Proofs.YtdklknfgcepcbaaGreatW.PrintLast Go.Proofs.YtdklknfgcepcbaaGreatW.PrintMore
set_option linter.unusedVariables false
set_option linter.unusedSimpArgs false
def super_Up.l0 : Nat → List Int → Int → Int → List Int → Int → Option (List Int)
  | 0, _, _, _, _, _ => none
  | k + 1, x0, x2, x3, x9, x10 => if x10 < (mn x2 (x0.length : Int)) then (if 0 ≤ x10 then (if x10 < (x0.length : Int) then (if (rd x0 x10) ≥ x3 then (if x9.length < 17592186044416 then (super_Up.l0 k x0 x2 x3 (x9 ++ [x10]) (wrap64 (x10 + 1))) else (none)) else (super_Up.l0 k x0 x2 x3 x9 (wrap64 (x10 + 1)))) else (none)) else (none)) else (some x9)
def super_Up.f (k : Nat) (l0 : List Int) (a1 : Int) (a2 : Int) (a3 : Int) : Option (List Int) := super_Up.l0 k l0 a2 a3 ([] : List Int) (mx a1 0)
theorem super_Up.mono_l : ∀ k, (∀ y0 y1 y2 y3 y4, LeO (super_Up.l0 k y0 y1 y2 y3 y4) (super_Up.l0 (k + 1) y0 y1 y2 y3 y4))
  | 0 => fun _ _ _ _ _ r h => by simp [super_Up.l0] at h
  | k + 1 => by
    have ih0 := super_Up.mono_l k
    · intro y0 y1 y2 y3 y4
      unfold super_Up.l0
      repeat' first
      | (with_reducible exact ih0 _ _ _ _ _)
      | (with_reducible exact LeO.refl _)
      | (with_reducible exact LeO.none _)
      | (with_reducible refine LeO.ite ?_ ?_)
      | (with_reducible refine LeO.bind ?_ (fun _ => ?_))
      | exact ih0 _ _ _ _ _
      | exact LeO.none _
      | refine LeO.ite ?_ ?_
      | refine LeO.bind ?_ (fun _ => ?_)
theorem super_Up.mono : ∀ a0 a1 a2 a3 k, LeO (super_Up.f k a0 a1 a2 a3) (super_Up.f (k + 1) a0 a1 a2 a3) := by
  intro a0 a1 a2 a3 k
  have ih0 := super_Up.mono_l k
  unfold super_Up.f
  repeat' first
      | (with_reducible exact ih0 _ _ _ _ _)
      | (with_reducible exact LeO.refl _)
      | (with_reducible exact LeO.none _)
      | (with_reducible refine LeO.ite ?_ ?_)
      | (with_reducible refine LeO.bind ?_ (fun _ => ?_))
      | exact ih0 _ _ _ _ _
      | exact LeO.none _
      | refine LeO.ite ?_ ?_
      | refine LeO.bind ?_ (fun _ => ?_)
set_option maxHeartbeats 8000000 in
set_option maxRecDepth 100000 in
theorem super_Up.calls (k : Nat) (A0 : Option Addr) (c0 : Nat) (l0 : List Int) (a1 : Int) (a2 : Int) (a3 : Int) (r : List Int) (w : World) (hr0 : Kd.C (Kd.int .i64) w A0 l0.length l0) (hc0 : l0.length ≤ c0) (h : super_Up.f k l0 a1 a2 a3 = some r) :
    Calls Tryz.prog 9 #[.slice A0 l0.length c0, .int .i64 a1, .int .i64 a2, .int .i64 a3] w fun e w' => ∃ v0_ : Value, e = .returned (v0_) ∧ Kd.R (Kd.int .i64) 3 w' w.heap.size (fun _ => True) v0_ r ∧ Below w.heap.size w w' := by
  have HR0 := Aside0.mk hr0
  have HC0 := Aside0.mk hc0
  clear hr0 hc0
  have HB := Aside0.mk (Below.refl w.heap.size w)
  have H : (super_Up.l0 k l0 a2 a3 ([] : List Int) (mx a1 0)) = some r := h
  clear h
  obtain ⟨ji5, hji5⟩ : ∃ j_ : Int, (mx a1 0) = j_ := ⟨_, rfl⟩
  replace H : (super_Up.l0 k l0 a2 a3 ([] : List Int) ji5) = some r := by first | (rw [hji5] at H; exact H) | (simp only [hji5] at H ⊢; exact H)
  (try (have hji5l : 0 ≤ ji5 := by (rw [← hji5]; unfold mx; (repeat' split) <;> omega)))
  (try (have hji5m : 0 ≤ ji5 := by omega))
  have hji5_ : (if a1 < 0 then 0 else a1) = ji5 := hji5
  have H' := Aside0.mk H
  clear H
  go_enter Tryz.func9, Tryz.ntmps9
  go_wp2
  go_loopg [9, 10] k (fun kq v9 v10 w' => ∃ (x9_1 : List Int) (x10_1 : Int), v10 = .int .i64 x10_1 ∧ Aside0 (super_Up.l0 kq l0 a2 a3 x9_1 x10_1 = some r) ∧ Aside0 (kq ≤ k) ∧ Aside0 (Kd.R (Kd.int .i64) 3 w' w.heap.size (fun _ => True) v9 x9_1) ∧ Aside0 (Below w.heap.size w w'))
  case atStart => exact ⟨(([] : List Int)), (ji5), (by first | rfl | (simp; done) | (simp only [← hji5] <;> (first | rfl | simp)) | (simp [*]; done)), H', ⟨Nat.le_refl _⟩, ⟨by first | exact Kd.R_nil _ _ _ _ _ | exact Kd.N_nil _ _ _ _ _ | exact Kd.V_nil _ _ _ _ _ | exact Kd.Q_nil _ _ _ _ _ | exact Kd.S_nil _ _ _ _ _⟩, ⟨by repeat (first | (with_reducible first | exact HB.out | apply below_alloc | apply pw_below_drewN | apply below_drew1) | exact HB.out)⟩⟩
  case round =>
    clear H'
    try clear p2
    obtain ⟨x9_1, x10_1, rfl, HA, HK1, HO_9, HB⟩ := hrel
    cases gk with
    | zero => exact absurd HA.out (by simp [super_Up.l0])
    | succ k1 =>
      have H := HA.out
      clear HA
      simp only [super_Up.l0] at H
      obtain ⟨ji6, hji6⟩ : ∃ j_ : Int, (mn a2 (l0.length : Int)) = j_ := ⟨_, rfl⟩
      replace H : (if x10_1 < (ji6) then (if 0 ≤ x10_1 then (if x10_1 < (l0.length : Int) then (if (rd l0 x10_1) ≥ a3 then (if x9_1.length < 17592186044416 then (super_Up.l0 k1 l0 a2 a3 (x9_1 ++ [x10_1]) (wrap64 (x10_1 + 1))) else (none)) else (super_Up.l0 k1 l0 a2 a3 x9_1 (wrap64 (x10_1 + 1)))) else (none)) else (none)) else (some x9_1)) = some r := by first | (rw [hji6] at H; exact H) | (simp only [hji6] at H ⊢; exact H)
      have hji6_ : (if (l0.length : Int) < a2 then (l0.length : Int) else a2) = ji6 := hji6
      by_cases c7 : x10_1 < (ji6)
      · rw [if_pos c7] at H
        have c7b0 : decide (x10_1 < (ji6)) = true := decide_eq_true c7
        clear c7
        by_cases c8 : 0 ≤ x10_1
        · rw [if_pos c8] at H
          have c8b0 : decide (0 ≤ x10_1) = true := decide_eq_true c8
          clear c8
          by_cases c9 : x10_1 < (l0.length : Int)
          · rw [if_pos c9] at H
            have c9b0 : decide (x10_1 < (l0.length : Int)) = true := decide_eq_true c9
            clear c9
            by_cases c10 : (rd l0 x10_1) ≥ a3
            · rw [if_pos c10] at H
              have c10b0 : decide (a3 ≤ (rd l0 x10_1)) = true := decide_eq_true c10
              clear c10
              by_cases c11 : x9_1.length < 17592186044416
              · rw [if_pos c11] at H
                have LMc11 := Aside0.mk c11
                clear c11
                obtain ⟨y127, hy127⟩ : ∃ y_ : List Int, y_ = (x9_1 ++ [x10_1]) := ⟨_, rfl⟩
                replace H : (super_Up.l0 k1 l0 a2 a3 y127 (wrap64 (x10_1 + 1))) = some r := by first | (rw [hy127]; with_reducible exact H) | (have H2_ := (Option.bind_some _ _).symm.trans H; rw [hy127]; with_reducible exact H2_) | (have H2_ := (Option.bind_some _ _).symm.trans H; with_reducible exact H2_) | with_reducible exact H | (rw [hy127]; exact H) | exact H
                have Ny127 := Aside0.mk hy127
                clear hy127
                have H' := Aside0.mk H
                clear H
                have p126 : 0 ≤ (x10_1 : Int) := of_decide_eq_true (by first | (with_reducible assumption) | assumption)
                have q126 : x10_1 < (l0.length : Int) := of_decide_eq_true (by first | (with_reducible assumption) | assumption)
                obtain ⟨ad126, e126, hx126_0⟩ := Kd.at_int HR0.out x10_1 p126 q126
                cases e126
                replace hx126_0 := (HB.out.cell (World.block_lt_of_cell? w _ hx126_0)).trans hx126_0
                replace p126 := eq_true p126
                replace q126 := eq_true q126
                go_wp2_with (first | ((with_reducible refine gate_builtin (b := .append) (xs := #[.tmp 27, .tmp 29]) rfl ?_); at_builtin; refine Kd.R_append (Kd.int .i64) (w0 := w) w.heap.size rfl (.tmp 27) (.tmp 29) 31 3 (.int .i64 0) 8 rfl Tryz.underlying31 info3 rfl (by decide) (by omega) u9 x9_1 x10_1 [.int .i64 x10_1] (fun _ => True) (fun _ => False) rfl rfl ?aP (fun _ hk => hk.elim) ?aF ?aO ?aB ?aS ?aL ?_; (case aP => exact rfl); (case aB => exact (by repeat (first | (with_reducible first | exact HB.out | apply below_alloc | apply pw_below_drewN | apply below_drew1) | exact HB.out))); (case aF => exact (fun _ _ => trivial)); (case aO => exact (by (with_reducible repeat (first | apply Kd.R_alloc | apply Kd.R_drewN | apply Kd.R_drew)); exact HO_9.out)); (case aS => exact (below_size (by repeat (first | (with_reducible first | exact HB.out | apply below_alloc | apply pw_below_drewN | apply below_drew1) | exact HB.out)))); (case aL => have := LMc11.out; omega); intro v128 w12 ho hb hg hat; rw [← Ny127.out] at ho; have n0_ := Aside0.mk (hb); have n1_ := Aside0.mk (ho); clear HB; clear HO_9; have HB := n0_; have HO129 := n1_; clear n0_ n1_; clear ho hb hg hat))
                go_roundg k1
                case measure => have := HK1.out; omega
                case rel => exact ⟨(y127), (wrap64 (x10_1 + 1)), (by first | rfl | (simp; done) | (simp [*]; done)), H', ⟨by have := HK1.out; omega⟩, ⟨by (with_reducible repeat (first | apply Kd.R_alloc | apply Kd.R_drewN | apply Kd.R_drew)); exact HO129.out⟩, ⟨by repeat (first | (with_reducible first | exact HB.out | apply below_alloc | apply pw_below_drewN | apply below_drew1) | exact HB.out)⟩⟩
              · rw [if_neg c11] at H
                exact absurd H (by simp)
            · rw [if_neg c10] at H
              have c10b0 : decide (a3 ≤ (rd l0 x10_1)) = false := decide_eq_false c10
              clear c10
              have H' := Aside0.mk H
              clear H
              have p126 : 0 ≤ (x10_1 : Int) := of_decide_eq_true (by first | (with_reducible assumption) | assumption)
              have q126 : x10_1 < (l0.length : Int) := of_decide_eq_true (by first | (with_reducible assumption) | assumption)
              obtain ⟨ad126, e126, hx126_0⟩ := Kd.at_int HR0.out x10_1 p126 q126
              cases e126
              replace hx126_0 := (HB.out.cell (World.block_lt_of_cell? w _ hx126_0)).trans hx126_0
              replace p126 := eq_true p126
              replace q126 := eq_true q126
              go_wp2
              go_roundg k1
              case measure => have := HK1.out; omega
              case rel => exact ⟨(x9_1), (wrap64 (x10_1 + 1)), (by first | rfl | (simp; done) | (simp [*]; done)), H', ⟨by have := HK1.out; omega⟩, ⟨by (with_reducible repeat (first | apply Kd.R_alloc | apply Kd.R_drewN | apply Kd.R_drew)); exact HO_9.out⟩, ⟨by repeat (first | (with_reducible first | exact HB.out | apply below_alloc | apply pw_below_drewN | apply below_drew1) | exact HB.out)⟩⟩
          · rw [if_neg c9] at H
            exact absurd H (by simp)
        · rw [if_neg c8] at H
          exact absurd H (by simp)
      · rw [if_neg c7] at H
        have c7b0 : decide (x10_1 < (ji6)) = false := decide_eq_false c7
        clear c7
        obtain rfl := Option.some.inj H
        go_wp2
        go_ret
        exact ⟨_, by first | rfl | (simp [errW_none, errW_some] <;> rfl) | (simp only [← hji5, ← hji6]; first | rfl | (simp [errW_none, errW_some] <;> rfl)) | (simp [*, errW_none, errW_some] <;> rfl), by (with_reducible repeat (first | apply Kd.R_alloc | apply Kd.R_drewN | apply Kd.R_drew)); exact HO_9.out, by repeat (first | (with_reducible first | exact HB.out | apply below_alloc | apply pw_below_drewN | apply below_drew1) | exact HB.out)⟩
end Go.Proofs.YtdklknfgcepcbaaGreat.X
end
section
namespace Go.Proofs.YtdklknfgcepcbaaGreat.X
open Go.Proofs.YtdklknfgcepcbaaGreatW.PrintWords
def S.oddB (n : Int) : Bool := decide (n < 0 ∨ 31 < n)
def S.mayB (l : List Int) : Bool := decide (0 < l.length) && (decide (l.length ≤ 200) && (decide (rd l 0 = 31) && !l.any S.oddB))
def S.upFrom : List Int → Int → Int → Int → Int → List Int
  | [], _, _, _, _ => []
  | x :: l, i, fr, hi, n => if fr ≤ i ∧ i < hi ∧ n ≤ x then i :: S.upFrom l (i + 1) fr hi n else S.upFrom l (i + 1) fr hi n
def S.upZ (l : List Int) (fr hi n : Int) : List Int := S.upFrom l 0 fr hi n
def S.mthLast (a : List Int) (m : Int) : Int := if m ≤ (a.length : Int) then rd a ((a.length : Int) - m) else 0
def S.climbAt (l : List Int) (m k : Int) : Nat → Int
  | 0 => 0
  | i + 1 => if m < ((S.upZ l (S.climbAt l m k i) ((l.length : Int) - k) (31 - (i : Int))).length : Int) then rd (S.upZ l (S.climbAt l m k i) ((l.length : Int) - k) (31 - (i : Int))) (((S.upZ l (S.climbAt l m k i) ((l.length : Int) - k) (31 - (i : Int))).length : Int) - m) else S.climbAt l m k i
def S.okB (l : List Int) (m k : Int) : Bool := S.mayB l && (decide (1 ≤ m) && (decide (1 ≤ k) && decide (k < (l.length : Int))))
def S.fromZ (l : List Int) (m k n : Int) : Int := if S.okB l m k = true then (if 31 < n then 0 else S.mthLast (S.upZ l 0 ((l.length : Int) - k) (n + 1)) m) else -1
def S.takenL (l : List Int) (m k : Int) : List Int := (S.upZ l 0 ((l.length : Int) - k) 0).filter fun i => decide (S.fromZ l m k (rd l i) ≤ i)
def S.prefZ (l : List Int) (m k : Int) : List Int × Bool := if S.okB l m k = true then (S.takenL l m k, true) else ([], false)
end Go.Proofs.YtdklknfgcepcbaaGreat.X
end
section
namespace Go.Proofs.YtdklknfgcepcbaaGreat.X
open Go.RowKit Go.Proofs.YtdklknfgcepcbaaGreatW.PrintWords
theorem E.wrap_id {x : Int} (h0 : -9223372036854775808 ≤ x) (h1 : x ≤ 9223372036854775807) : wrap64 x = x := by
  unfold wrap64
  omega
theorem E.upFrom_none (l : List Int) (i fr hi n : Int) (h : hi ≤ i) : S.upFrom l i fr hi n = [] := by
  induction l generalizing i with
  | nil => rfl
  | cons x t ih =>
    unfold S.upFrom
    rw [if_neg (by omega)]
    exact ih (i + 1) (by omega)
theorem E.upFrom_skip (d : Nat) : ∀ (l : List Int) (i fr hi n : Int), i + d ≤ fr → S.upFrom l i fr hi n = S.upFrom (l.drop d) (i + d) fr hi n := by
  induction d with
  | zero => intro l i fr hi n _; simp
  | succ d ih =>
    intro l i fr hi n h
    cases l with
    | nil => simp [S.upFrom]
    | cons x t =>
      conv => lhs; unfold S.upFrom
      rw [if_neg (by omega), ih t (i + 1) fr hi n (by omega), List.drop_succ_cons]
      congr 1
      omega
theorem E.up_l0 (l : List Int) (hi n : Int) (hl : l.length ≤ 17592186044415) (d : Nat) : ∀ (k i : Nat) (fr : Int) (acc : List Int), l.length - i = d → i ≤ l.length → fr ≤ i → acc.length ≤ i → d < k →
    super_Up.l0 k l hi n acc i = some (acc ++ S.upFrom (l.drop i) i fr hi n) := by
  induction d with
  | zero =>
    intro k i fr acc hd hi' hfr hacc hk
    obtain ⟨k, rfl⟩ : ∃ m, k = m + 1 := ⟨k - 1, by omega⟩
    simp only [super_Up.l0]
    rw [if_neg (by unfold mn; split <;> omega), List.drop_of_length_le (by omega)]
    simp [S.upFrom]
  | succ d ih =>
    intro k i fr acc hd hi' hfr hacc hk
    obtain ⟨k, rfl⟩ : ∃ m, k = m + 1 := ⟨k - 1, by omega⟩
    have hlt : i < l.length := by omega
    have hdr := List.drop_eq_getElem_cons hlt
    have hrd : rd l i = l[i] := by simp [rd, List.getElem?_eq_getElem hlt, List.getD_eq_getElem?_getD]
    have hw : wrap64 ((i : Int) + 1) = ((i + 1 : Nat) : Int) := by rw [E.wrap_id (by omega) (by omega)]; omega
    simp only [super_Up.l0]
    by_cases hc : (i : Int) < hi
    · rw [if_pos (by unfold mn; split <;> omega), if_pos (by omega), if_pos (by omega), hrd, hdr, hw]
      by_cases hx : l[i] ≥ n
      · rw [if_pos hx, if_pos (by omega), ih k (i + 1) fr _ (by omega) (by omega) (by omega) (by simp; omega) (by omega)]
        conv => rhs; unfold S.upFrom
        rw [if_pos ⟨hfr, hc, hx⟩]
        simp
      · rw [if_neg hx, ih k (i + 1) fr _ (by omega) (by omega) (by omega) (by omega) (by omega)]
        conv => rhs; unfold S.upFrom
        rw [if_neg (by omega)]
        simp
    · rw [if_neg (by unfold mn; split <;> omega), E.upFrom_none _ _ _ _ _ (by omega)]
      simp
theorem E.up_f (l : List Int) (fr hi n : Int) (hl : l.length ≤ 17592186044415) (k : Nat) (hk : l.length + 1 < k) : super_Up.f k l fr hi n = some (S.upZ l fr hi n) := by
  unfold super_Up.f S.upZ
  by_cases h0 : fr ≤ 0
  · have : mx fr 0 = ((0 : Nat) : Int) := by unfold mx; split <;> omega
    rw [this, E.up_l0 l hi n hl l.length k 0 fr [] (by omega) (by omega) (by omega) (by simp) (by omega)]
    simp
  · obtain ⟨f, rfl⟩ : ∃ f : Nat, fr = f := ⟨fr.toNat, by omega⟩
    have : mx (f : Int) 0 = (f : Int) := by unfold mx; split <;> omega
    rw [this]
    by_cases hf : f ≤ l.length
    · rw [E.up_l0 l hi n hl (l.length - f) k f f [] rfl hf (by omega) (by simp) (by omega), E.upFrom_skip f l 0 f hi n (by omega)]
      simp
    · obtain ⟨k, rfl⟩ : ∃ m, k = m + 1 := ⟨k - 1, by omega⟩
      simp only [super_Up.l0]
      rw [if_neg (by unfold mn; split <;> omega), E.upFrom_skip f l 0 f hi n (by omega), List.drop_of_length_le (by omega)]
      simp [S.upFrom]
end Go.Proofs.YtdklknfgcepcbaaGreat.X
end
section
namespace Go.Proofs.YtdklknfgcepcbaaGreat.X
open Go.RowKit Go.Proofs.YtdklknfgcepcbaaGreatW.PrintWords Go.Proofs.YtdklknfgcepcbaaGreatW.PrintLast Go.Proofs.YtdklknfgcepcbaaGreatW.PrintMore
theorem E.odd_calls (n : Int) (w : World) : Calls Tryz.prog 145 #[.int .i64 n] w fun e w' => e = .returned (.bool (S.oddB n)) ∧ w = w' := by
  unfold S.oddB
  by_cases h1 : n < 0
  · have b1 : decide (n < 0) = true := by simpa using h1
    have hd : decide (n < 0 ∨ 31 < n) = true := by simp [h1]
    rw [hd]; clear hd
    go_enter Tryz.func145, Tryz.ntmps145
    go_wp2
    go_ret
    exact ⟨rfl, rfl⟩
  · have b1 : decide (n < 0) = false := by simpa using h1
    have hd : decide (n < 0 ∨ 31 < n) = decide (31 < n) := by simp [h1]
    rw [hd]; clear hd
    go_enter Tryz.func145, Tryz.ntmps145
    go_wp2
    go_ret
    exact ⟨rfl, rfl⟩
def E.Idx (l : List Int) (w : World) (e : Ending) (w' : World) : Prop := ∃ x : Int, -1 ≤ x ∧ decide (0 ≤ x) = l.any S.oddB ∧ e = .returned (.int .i64 x) ∧ Drawn0 w w'
theorem E.any_hit {l : List Int} {k : Nat} (hk : k < l.length) (h : S.oddB (rd l k) = true) : l.any S.oddB = true := by
  rw [List.any_eq_true]
  refine ⟨l[k], List.getElem_mem hk, ?_⟩
  have : rd l k = l[k] := by simp [rd, List.getElem?_eq_getElem hk, List.getD_eq_getElem?_getD]
  rw [← this]; exact h
theorem E.any_miss {l : List Int} (h : ∀ j : Nat, j < l.length → S.oddB (rd l j) = false) : l.any S.oddB = false := by
  rw [List.any_eq_false]
  intro x hx
  obtain ⟨j, hj, rfl⟩ := List.getElem_of_mem hx
  have : rd l j = l[j] := by simp [rd, List.getElem?_eq_getElem hj, List.getD_eq_getElem?_getD]
  rw [← this, h j hj]; simp
set_option maxHeartbeats 1000000 in
theorem E.index_calls (A0 : Option Addr) (c0 : Nat) (l0 : List Int) (w : World) (hr0 : Kd.C (Kd.int .i64) w A0 l0.length l0) :
    Calls Tryz.prog 167 #[.slice A0 l0.length c0, .func (.func 145) #[] #[]] w (E.Idx l0 w) := by
  have hmax := Kd.C_max hr0
  have HR0 := Aside0.mk hr0
  clear hr0
  go_enter Tryz.func167, Tryz.ntmps167
  go_wp2
  go_loopg [5, 8] l0.length (fun kq _ v8 w' => ∃ k : Nat, v8 = .int .i64 k ∧ k ≤ l0.length ∧ l0.length - k ≤ kq ∧ Aside0 (∀ j : Nat, j < k → S.oddB (rd l0 j) = false) ∧ Drawn0 w w')
  case atStart => exact ⟨0, rfl, Nat.zero_le _, by omega, ⟨fun j hj => absurd hj (Nat.not_lt_zero _)⟩, Drawn0.refl _⟩
  case round =>
    obtain ⟨k, rfl, hk, hg, HA, ⟨m1, rfl⟩⟩ := hrel
    by_cases hlt : k < l0.length
    · have hltz : (k : Int) < (l0.length : Int) := by omega
      have p1 : 0 ≤ (k : Int) := by omega
      have cb : decide ((k : Int) < (l0.length : Int)) = true := by simpa using hltz
      obtain ⟨ad, e1, hx⟩ := Kd.at_int HR0.out k p1 hltz
      cases e1
      rw [Int.toNat_natCast] at hx
      generalize hy : rd l0 k = y at hx
      have HY := Aside0.mk hy
      clear hy
      cases hq : S.oddB y with
      | true =>
        have HQ := Aside0.mk hq
        clear hq
        go_wp2_with (go_at_call 145; refine (E.odd_calls _ _).mono ?_; rw [HQ.out]; rintro e w' ⟨rfl, rfl⟩)
        go_ret
        exact ⟨k, by omega, by rw [E.any_hit hlt (by rw [HY.out]; exact HQ.out)]; simp, rfl, by repeat (first | exact Drawn0.refl _ | apply Drawn0.step)⟩
      | false =>
        have HQ := Aside0.mk hq
        clear hq
        go_wp2_with (go_at_call 145; refine (E.odd_calls _ _).mono ?_; rw [HQ.out]; rintro e w' ⟨rfl, rfl⟩)
        go_roundg (l0.length - (k + 1))
        case measure => omega
        case rel =>
          refine ⟨k + 1, by go_num, by omega, by omega, ⟨fun j hj => ?_⟩, by repeat (first | exact Drawn0.refl _ | apply Drawn0.step)⟩
          by_cases e : j = k
          · subst e
            rw [HY.out]; exact HQ.out
          · exact HA.out j (by omega)
    · have hltz : ¬ (k : Int) < (l0.length : Int) := by omega
      have cb : decide ((k : Int) < (l0.length : Int)) = false := by simpa using hltz
      obtain rfl : k = l0.length := by omega
      go_wp2
      go_ret
      exact ⟨-1, by omega, by rw [E.any_miss HA.out]; simp, rfl, by repeat (first | exact Drawn0.refl _ | apply Drawn0.step)⟩
theorem E.contains_calls (A0 : Option Addr) (c0 : Nat) (l0 : List Int) (w : World) (hr0 : Kd.C (Kd.int .i64) w A0 l0.length l0) :
    Calls Tryz.prog 146 #[.slice A0 l0.length c0, .func (.func 145) #[] #[]] w fun e w' => e = .returned (.bool (l0.any S.oddB)) ∧ Drawn0 w w' := by
  have HR0 := Aside0.mk hr0
  clear hr0
  go_enter Tryz.func146, Tryz.ntmps146
  go_wp2_with (go_at_call 167; refine (E.index_calls _ _ _ _ HR0.out).mono ?_; rintro e w' ⟨x, hx1, hx2, rfl, hd⟩; have HX := Aside0.mk hx2; clear hx2)
  go_ret
  exact ⟨by rw [HX.out]; rfl, hd⟩
theorem E.may_calls (A0 : Option Addr) (c0 : Nat) (l0 : List Int) (w : World) (hr0 : Kd.C (Kd.int .i64) w A0 l0.length l0) (_hc0 : l0.length ≤ c0) :
    Calls Tryz.prog 114 #[.slice A0 l0.length c0] w fun e w' => e = .returned (.bool (S.mayB l0)) ∧ Drawn0 w w' := by
  have HR0 := Aside0.mk hr0
  clear hr0
  unfold S.mayB
  by_cases h1 : 0 < l0.length
  · have b1 : decide ((0 : Int) < (l0.length : Int)) = true := by rw [decide_eq_true_eq]; omega
    have b1' : decide (0 < l0.length) = true := by rw [decide_eq_true_eq]; omega
    by_cases h2 : l0.length ≤ 200
    · have b2 : decide ((l0.length : Int) ≤ 200) = true := by rw [decide_eq_true_eq]; omega
      have b2' : decide (l0.length ≤ 200) = true := by rw [decide_eq_true_eq]; omega
      obtain ⟨ad, e1, hx⟩ := Kd.at_int HR0.out 0 (by omega) (by omega)
      cases e1
      rw [Int.toNat_zero, Addr.add_zero'] at hx
      by_cases h3 : rd l0 0 = 31
      · rw [b1', b2', show decide (rd l0 0 = 31) = true from by rw [decide_eq_true_eq]; exact h3, Bool.true_and, Bool.true_and, Bool.true_and]
        have b3 : (rd l0 0 == 31) = true := beq_iff_eq.mpr h3
        clear b1' b2' h3
        go_enter Tryz.func114, Tryz.ntmps114
        go_wp2_with (go_at_call 146; refine (E.contains_calls _ _ _ _ HR0.out).mono ?_; rintro e w' ⟨rfl, ⟨m, rfl⟩⟩)
        go_ret
        exact ⟨rfl, ⟨_, rfl⟩⟩
      · rw [b1', b2', show decide (rd l0 0 = 31) = false from by rw [decide_eq_false_iff_not]; exact h3, Bool.true_and, Bool.true_and, Bool.false_and]
        have b3 : (rd l0 0 == 31) = false := beq_eq_false_iff_ne.mpr h3
        clear b1' b2' h3
        go_enter Tryz.func114, Tryz.ntmps114
        go_wp2
        go_ret
        exact ⟨rfl, Drawn0.refl _⟩
    · have b2 : decide ((l0.length : Int) ≤ 200) = false := by rw [decide_eq_false_iff_not]; omega
      have b2' : decide (l0.length ≤ 200) = false := by rw [decide_eq_false_iff_not]; omega
      rw [b1', b2', Bool.true_and, Bool.false_and]
      clear b1' b2'
      go_enter Tryz.func114, Tryz.ntmps114
      go_wp2
      go_ret
      exact ⟨rfl, Drawn0.refl _⟩
  · have b1 : decide ((0 : Int) < (l0.length : Int)) = false := by rw [decide_eq_false_iff_not]; omega
    have b1' : decide (0 < l0.length) = false := by rw [decide_eq_false_iff_not]; omega
    rw [b1', Bool.false_and]
    clear b1'
    go_enter Tryz.func114, Tryz.ntmps114
    go_wp2
    go_ret
    exact ⟨rfl, Drawn0.refl _⟩
end Go.Proofs.YtdklknfgcepcbaaGreat.X
end
section
namespace Go.Proofs.YtdklknfgcepcbaaGreat.X
open Go.RowKit Go.Shelf Go.Proofs.YtdklknfgcepcbaaGreatW.PrintWords Go.Proofs.YtdklknfgcepcbaaGreatW.PrintLast Go.Proofs.YtdklknfgcepcbaaGreatW.PrintMore
def S.climbL (l : List Int) (m k : Int) (i : Nat) : List Int := S.upZ l (S.climbAt l m k i) ((l.length : Int) - k) (31 - (i : Int))
theorem S.climbAt_succ (l : List Int) (m k : Int) (i : Nat) : S.climbAt l m k (i + 1) = if m < ((S.climbL l m k i).length : Int) then rd (S.climbL l m k i) (((S.climbL l m k i).length : Int) - m) else S.climbAt l m k i := rfl
theorem E.R_keeps {e : Nat} {base B : Nat} {ok : Nat → Prop} {v : Value} {xs : List Int} {W W' : World} (h : Kd.R (Kd.int .i64) e W base ok v xs) (hb : B ≤ base) (hk : E.KeepsOn B W W') : Kd.R (Kd.int .i64) e W' base ok v xs :=
  Kd.R_mono (Kd.R_move (Kd.R_bound h) (fun k hk1 => hk.2 k (Nat.le_trans hb hk1.2.1) hk1.2.2.1)) (fun _ hk1 => hk1.1)
theorem E.cell_keeps {e : Nat} {base B c : Nat} {ok : Nat → Prop} {ad : Addr} {xs : List Int} {W W' : World} (h : Kd.R (Kd.int .i64) e W base ok (.slice (some ad) xs.length c) xs) (hb : B ≤ base) (hk : E.KeepsOn B W W') (i : Int) (h0 : 0 ≤ i) (h1 : i < xs.length) :
    W'.cell? (ad.add i.toNat) = some (.int .i64 (rd xs i)) := by
  obtain ⟨A, c', e, _, hC⟩ := Kd.R_reads (E.R_keeps h hb hk)
  injection e with e1 e2 e3
  subst e1
  obtain ⟨ad', e1, hx⟩ := Kd.at_int hC i h0 h1
  injection e1 with e1
  subst e1
  exact hx
set_option maxHeartbeats 1000000 in
theorem E.climb_calls (g : Nat) (lb : Array Value) (eg : ∀ args w, (callFunc g args).run Tryz.prog w = .ok (.enter g args) w)
    (A0 : Option Addr) (c0 : Nat) (l0 : List Int) (a1 a2 : Int) (w0 w : World) (B : Nat) (hr0 : Kd.C (Kd.int .i64) w0 A0 l0.length l0) (hc0 : l0.length ≤ c0) (hlen : l0.length ≤ 200) (h1 : 1 ≤ a1) (h2 : 1 ≤ a2) (h3 : a2 < (l0.length : Int)) (h1' : a1 ≤ 9223372036854775807)
    (J : Nat → World → Prop) (hJup : ∀ i W W', J i W → Below W.heap.size W W' → J i W') (hJw : ∀ i W, J i W → Below w0.heap.size w0 W ∧ B ≤ W.heap.size)
    (hcb : ∀ (i : Nat) (A : Option Addr) (c : Nat) (W : World), i < 32 → J i W → Kd.C (Kd.int .i64) W A (S.climbL l0 a1 a2 i).length (S.climbL l0 a1 a2 i) → (∀ ad, A = some ad → B ≤ ad.block) →
      Calls Tryz.prog g (#[.int .i64 (31 - (i : Int)), .int .i64 (S.climbAt l0 a1 a2 i), .slice A (S.climbL l0 a1 a2 i).length c] ++ lb) W fun e W' => e = .returned (.tuple #[]) ∧ J (i + 1) W' ∧ E.KeepsOn B W W')
    (h0 : J 0 w) :
    Calls Tryz.prog 63 #[.slice A0 l0.length c0, .int .i64 a1, .int .i64 a2, .func (.func g) #[] lb] w fun e w' => e = .returned (.tuple #[]) ∧ J 32 w' := by
  have HR0 := Aside0.mk hr0
  have HC0 := Aside0.mk hc0
  have HJU := Aside0.mk hJup
  have HJW := Aside0.mk hJw
  have HCB := Aside0.mk hcb
  have HJ0 := Aside0.mk h0
  clear hr0 hc0 hJup hJw hcb h0
  go_enter Tryz.func63, Tryz.ntmps63
  go_wp2
  go_loopg [8, 12] 32 (fun kq v8 v12 w' => ∃ (i : Nat), v12 = .int .i64 i ∧ v8 = .int .i64 (S.climbAt l0 a1 a2 i) ∧ i ≤ 32 ∧ 32 - i ≤ kq ∧ Aside0 (J i w'))
  case atStart => exact ⟨0, rfl, rfl, by omega, by omega, HJ0⟩
  case round =>
    obtain ⟨i, rfl, rfl, hi, hg, HJ⟩ := hrel
    clear HJ0
    by_cases hlt : i < 32
    · have hltz : (i : Int) < 32 := by omega
      have cb : decide ((i : Int) < 32) = true := by simpa using hltz
      go_wp2_with fail
      refine (super_Up.calls 300 A0 c0 l0 (S.climbAt l0 a1 a2 i) ((l0.length : Int) - a2) (31 - (i : Int)) (S.climbL l0 a1 a2 i) wr (Kd.C_below HR0.out (HJW.out _ _ HJ.out).1) HC0.out (E.up_f l0 _ _ _ (by omega) 300 (by omega))).mono ?_
      rintro e w1 ⟨v, rfl, hR, hB⟩
      have HJ1 := Aside0.mk (HJU.out i wr w1 HJ.out hB)
      have hBw := (HJW.out _ _ HJ.out).2
      obtain ⟨A1, c1, rfl, hle, hC⟩ := Kd.R_reads hR
      have hA1 : ∀ ad, A1 = some ad → B ≤ ad.block := fun ad e => by subst e; exact Nat.le_trans hBw (Kd.R_base hR _ rfl)
      have HCC := Aside0.mk (HCB.out i A1 c1 w1 hlt HJ1.out hC hA1)
      have hmx := Kd.C_max hC
      have hS := S.climbAt_succ l0 a1 a2 i
      have HS := Aside0.mk hS
      have HC := Aside0.mk hC
      have HR := Aside0.mk hR
      clear hS hC hA1 hR hB
      generalize hL : S.climbL l0 a1 a2 i = L at *
      have HL := Aside0.mk hL
      clear hL
      by_cases hm : a1 < (L.length : Int)
      · have cm : decide (a1 < (L.length : Int)) = true := by simpa using hm
        obtain ⟨ad, e1, _⟩ := Kd.at_int HC.out 0 (by omega) (by omega)
        cases e1
        have i0 : 0 ≤ (L.length : Int) - a1 := by omega
        have i1 : (L.length : Int) - a1 < (L.length : Int) := by omega
        go_wp2_with (go_at_fn g; refine HCC.out.mono ?_; rintro e w2 ⟨rfl, hJ2, hK⟩; have hx := E.cell_keeps HR.out hBw hK _ i0 i1; have HJ2 := Aside0.mk hJ2; clear hJ2 hK)
        go_roundg (31 - i)
        case measure => omega
        case rel => exact ⟨i + 1, by go_num, by rw [HS.out, if_pos hm], by omega, by omega, HJ2⟩
      · have cm : decide (a1 < (L.length : Int)) = false := by simpa using hm
        go_wp2_with (go_at_fn g; refine HCC.out.mono ?_; rintro e w2 ⟨rfl, hJ2, hK⟩; have HJ2 := Aside0.mk hJ2; clear hJ2 hK)
        go_roundg (31 - i)
        case measure => omega
        case rel => exact ⟨i + 1, by go_num, by rw [HS.out, if_neg (by omega)], by omega, by omega, HJ2⟩
    · obtain rfl : i = 32 := by omega
      go_wp2
      go_end0
      exact ⟨rfl, HJ.out⟩
end Go.Proofs.YtdklknfgcepcbaaGreat.X
end
