/- Texts of these proofs, laid together by wip/tools/mergeb.py: X0, XsuperUp, S, E0, E1, R, E2, S1, XsuperMay, Xsupermay, E3, Shelf. -/
import Derived.Test.YteekdggainficaaProg
import Derived.Below
import Derived.Deep.Draws
import Derived.Deep.AppendLies
import Derived.Maps.AppendAt
import Derived.OwnWalk
import Derived.Laws.BytesArg
import Derived.Laws.MakeOwn
import Derived.Laws.OwnMore
import Derived.Deep.OwnRows
import Derived.Tactics
import Derived.Lib.ConvBytes
import Derived.Laws.Slices
import Derived.WalkKit
import Derived.KernelRfl
import Derived.RowKit3
import Derived.Deep.LoopGhost
import Derived.Deep.QuietTactic
import Derived.BigQuiet
import Derived.WideLaws
import Derived.Deep.DeepCutAuto
import Derived.Deep.CutBlock
import Derived.Deep.RegionHeld3
import Derived.Laws.Rows
import Derived.Lib.AppendStr
import Derived.ArgAppend
import Derived.Laws.IdiomCopy
import Derived.OrdersHeld
import Derived.Laws.BitsLemmas
import Derived.RowKit
import Derived.Test.YteekdggainficaaWWords
import Derived.Test.YteekdggainficaaWLast
import Derived.Test.YteekdggainficaaWTab
import Derived.Test.YteekdggainficaaWFour
import Derived.Test.YteekdggainficaaWQPut
import Derived.Test.YteekdggainficaaWApart
import Derived.Test.YteekdggainficaaWArr
import Derived.Test.YteekdggainficaaWZeros
import Derived.Test.YteekdggainficaaWFoot
import Derived.Test.YteekdggainficaaWKept
import Derived.Test.YteekdggainficaaWShare
import Derived.Test.YteekdggainficaaWN
import Derived.Test.YteekdggainficaaWFootNe
import Derived.Test.YteekdggainficaaWAt
import Derived.Test.YteekdggainficaaWEqStruct
import Derived.Test.YteekdggainficaaWRepsOne
import Derived.Test.YteekdggainficaaWInv
import Derived.Test.YteekdggainficaaWInvWords
import Derived.Test.YteekdggainficaaWGuard
import Derived.Test.YteekdggainficaaWNEv
import Derived.Test.YteekdggainficaaWMore
import Derived.RangeFuncNested
import Derived.RangeFuncLeaves
import Derived.RangeFuncBound
import Derived.Shelf.Abstract
import Derived.Shelf.SlGeneric
import Derived.Ground.GgzProg
import Derived.Ground.SlgmProg
import Derived.Ground.SlgnProg
import Derived.Shelf.SlIterI.Nil
import Derived.Shelf.SlicesG.Equal
import Derived.Shelf.SortM.Plain
import Derived.Shelf.SortM.SortNone
section
-- By this session's own program (wip/tools/xprint.py), over the kit's print. Not trusted: Lean checks it.
namespace Go.Proofs.Yteekdggainficaa.X
open Go.RowKit Go.Proofs.YteekdggainficaaW.PrintWords Go.Proofs.YteekdggainficaaW.PrintLast Go.Proofs.YteekdggainficaaW.PrintMore
attribute [local go_sem] max2_int min2_int max_two min_two max_three min_three max_four min_four   -- for this text's walks alone
set_option linter.unusedVariables false
set_option linter.unusedSimpArgs false



def errW : Option Int → Value
  | none => .nilIface
  | some c => .iface 0 (.int .i64 c)
theorem errW_none : errW none = .nilIface := rfl
theorem errW_some (c : Int) : errW (some c) = .iface 0 (.int .i64 c) := rfl

theorem info3 : (Try.prog.info? 3).map (fun i => (i.zero, i.size, i.bytes)) = some (some (.int .i64 0), 1, 8) := by kernel_rfl
theorem info4 : (Try.prog.info? 4).map (fun i => (i.zero, i.size, i.bytes)) = some (some (.bool false), 1, 1) := by kernel_rfl
theorem info36 : (Try.prog.info? 36).map (fun i => (i.zero, i.size, i.bytes)) = some (some (.agg #[(.bool false), (.int .i64 0), (.slice none 0 0)]), 3, 40) := by kernel_rfl
-- the values' own types
def rd_L2 (xs : List (List Int)) (i : Int) : (List Int) := xs.getD i.toNat ([] : List Int)
theorem at_L2 {w : World} {A : Option Addr} {n : Nat} {xs : List (List Int)} (h : Kd.C (Kd.slice 3 (Kd.int .i64)) w A n xs) (i : Int) (h0 : 0 ≤ i) (h1 : i < n) : ∃ ad A0 c0, A = some ad ∧ w.cell? (ad.add i.toNat) = some (.slice A0 (rd_L2 xs i).length c0) ∧ (rd_L2 xs i).length ≤ c0 ∧ (Kd.int .i64).C w A0 (rd_L2 xs i).length (rd_L2 xs i) := by
  obtain ⟨ad, c, e, _, hK, hc0⟩ := Kd.C_get h ([] : List Int) i h0 h1
  have hc : ∀ j u, c[j]? = some u → w.cell? (ad.add (i.toNat * 1 + j)) = some u := hc0
  obtain ⟨A0, c0, rfl, l0, g0⟩ := hK
  exact ⟨ad, A0, c0, e, by have hq := hc 0 _ rfl; rwa [Nat.mul_one, Nat.add_zero] at hq, l0, g0⟩

/-! #### struct type 36 -/
structure S36 where
  f0 : Bool
  f1 : Int
  f2 : (List Int)
def z36 : S36 := ⟨false, (0 : Int), ([] : List Int)⟩
def k36 : Kd S36 := Kd.iso (Kd.pair Kd.bool (Kd.pair (Kd.int .i64) (Kd.slice 3 (Kd.int .i64)))) (fun x : S36 => (x.f0, x.f1, x.f2))
theorem k36_open {w : World} {x : S36} {cs : List Value} (h : k36.K w x cs) : ∃ A2 c2, cs = [.bool x.f0, .int .i64 x.f1, .slice A2 x.f2.length c2] ∧ x.f2.length ≤ c2 ∧ (Kd.int .i64).C w A2 x.f2.length x.f2 := by
  obtain ⟨_, _, rfl, rfl, ⟨_, _, rfl, rfl, ⟨A2, c2, rfl, l2, g2⟩⟩⟩ := h
  exact ⟨A2, c2, rfl, l2, g2⟩
theorem k36_openM {w : World} {base : Nat} {ok : Nat → Prop} {x : S36} {cs : List Value} (h : k36.M w base ok x cs) : ∃ v2, cs = [.bool x.f0, .int .i64 x.f1, v2] ∧ (Kd.int .i64).R 3 w base ok v2 x.f2 := by
  obtain ⟨_, _, rfl, rfl, ⟨_, _, rfl, rfl, ⟨v2, rfl, g2⟩⟩⟩ := h
  exact ⟨v2, rfl, g2⟩
theorem k36_mk (w : World) (x : S36) {A2 : Option Addr} {c2 : Nat} (l2 : x.f2.length ≤ c2) (g2 : (Kd.int .i64).C w A2 x.f2.length x.f2) : k36.K w x [.bool x.f0, .int .i64 x.f1, .slice A2 x.f2.length c2] := ⟨[.bool x.f0], [.int .i64 x.f1, .slice A2 x.f2.length c2], rfl, rfl, ⟨[.int .i64 x.f1], [.slice A2 x.f2.length c2], rfl, rfl, ⟨A2, c2, rfl, l2, g2⟩⟩⟩
theorem k36_mkM (w : World) (base : Nat) (ok : Nat → Prop) (x : S36) {v2 : Value} (g2 : (Kd.int .i64).R 3 w base ok v2 x.f2) : k36.M w base ok x [.bool x.f0, .int .i64 x.f1, v2] := ⟨[.bool x.f0], [.int .i64 x.f1, v2], rfl, rfl, ⟨[.int .i64 x.f1], [v2], rfl, rfl, ⟨v2, rfl, g2⟩⟩⟩
theorem k36_openF {W : World} {ok : Nat → Prop} {x : S36} {cs : List Value} (h : Kd.FK k36 W ok x cs) : ∃ A2 c2, cs = [.bool x.f0, .int .i64 x.f1, .slice A2 x.f2.length c2] ∧ x.f2.length ≤ c2 ∧ Kd.F (Kd.int .i64) W ok A2 x.f2.length x.f2 := by
  obtain ⟨A2, c2, rfl, l2, _⟩ := k36_open (Kd.FK_now h)
  exact ⟨A2, c2, rfl, l2, (fun W' hW => by obtain ⟨A2_, c2_, he, l2_, g2_⟩ := k36_open (h W' hW); injection (Option.some.inj (show some (Value.slice A2 x.f2.length c2) = some (Value.slice A2_ x.f2.length c2_) from congrArg (fun l => l[2]?) he)) with ha_ _ _; rw [ha_]; exact g2_)⟩
theorem k36_mkF (W : World) (ok : Nat → Prop) (x : S36) {A2 : Option Addr} {c2 : Nat} (l2 : x.f2.length ≤ c2) (g2 : Kd.F (Kd.int .i64) W ok A2 x.f2.length x.f2) : Kd.FK k36 W ok x [.bool x.f0, .int .i64 x.f1, .slice A2 x.f2.length c2] := fun W2 hW => k36_mk W2 x l2 (g2 W2 hW)
def rd_T36 (xs : List S36) (i : Int) : S36 := xs.getD i.toNat z36
theorem at_T36 {w : World} {A : Option Addr} {n : Nat} {xs : List S36} (h : Kd.C k36 w A n xs) (i : Int) (h0 : 0 ≤ i) (h1 : i < n) : ∃ ad A2 c2, A = some ad ∧ w.cell? (ad.add (i.toNat * 3)) = some (.bool (rd_T36 xs i).f0) ∧ w.cell? ⟨(ad.add (i.toNat * 3)).block, (ad.add (i.toNat * 3)).off + 1, none⟩ = some (.int .i64 (rd_T36 xs i).f1) ∧ w.cell? ⟨(ad.add (i.toNat * 3)).block, (ad.add (i.toNat * 3)).off + 2, none⟩ = some (.slice A2 (rd_T36 xs i).f2.length c2) ∧ (rd_T36 xs i).f2.length ≤ c2 ∧ (Kd.int .i64).C w A2 (rd_T36 xs i).f2.length (rd_T36 xs i).f2 := by
  obtain ⟨ad, c, e, _, hK, hc0⟩ := Kd.C_get h z36 i h0 h1
  have hc : ∀ j u, c[j]? = some u → w.cell? (ad.add (i.toNat * 3 + j)) = some u := hc0
  obtain ⟨A2, c2, rfl, l2, g2⟩ := k36_open hK
  exact ⟨ad, A2, c2, e, hc 0 _ rfl, by rw [← add_field _ _ 1 (by omega)]; exact hc 1 _ rfl, by rw [← add_field _ _ 2 (by omega)]; exact hc 2 _ rfl, l2, g2⟩

end Go.Proofs.Yteekdggainficaa.X
end

section
-- By this session's own program (wip/tools/xprint.py), over the kit's print. Not trusted: Lean checks it.
namespace Go.Proofs.Yteekdggainficaa.X
open Go.RowKit Go.Proofs.YteekdggainficaaW.PrintWords Go.Proofs.YteekdggainficaaW.PrintLast Go.Proofs.YteekdggainficaaW.PrintMore
attribute [local go_sem] max2_int min2_int max_two min_two max_three min_three max_four min_four   -- for this text's walks alone
set_option linter.unusedVariables false
set_option linter.unusedSimpArgs false

/-! ### super_Up: function 45 -/
def super_Up.l0 : Nat → List Int → Int → Int → List Int → Int → Option (List Int)
  | 0, _, _, _, _, _ => none
  | k + 1, x0, x2, x3, x9, x10 => if x10 < (mn x2 (x0.length : Int)) then (if 0 ≤ x10 then (if x10 < (x0.length : Int) then (if (rd x0 x10) ≥ x3 then (if x9.length < 17592186044416 then (super_Up.l0 k x0 x2 x3 (x9 ++ [x10]) (wrap64 (x10 + 1))) else (none)) else (super_Up.l0 k x0 x2 x3 x9 (wrap64 (x10 + 1)))) else (none)) else (none)) else (some x9)
def super_Up.f (k : Nat) (l0 : List Int) (a1 : Int) (a2 : Int) (a3 : Int) : Option (List Int) := super_Up.l0 k l0 a2 a3 ([] : List Int) (mx a1 0)
theorem super_Up.mono_l : ∀ k, (∀ y0 y1 y2 y3 y4, LeO (super_Up.l0 k y0 y1 y2 y3 y4) (super_Up.l0 (k + 1) y0 y1 y2 y3 y4))
  | 0 => fun _ _ _ _ _ r h => by simp [super_Up.l0] at h
  | k + 1 => by
    have ih0 := super_Up.mono_l k
    · intro y0 y1 y2 y3 y4
      unfold super_Up.l0
      repeat' first
      | (with_reducible exact ih0 _ _ _ _ _)
      | (with_reducible exact LeO.refl _)
      | (with_reducible exact LeO.none _)
      | (with_reducible refine LeO.ite ?_ ?_)
      | (with_reducible refine LeO.bind ?_ (fun _ => ?_))
      | exact ih0 _ _ _ _ _
      | exact LeO.none _
      | refine LeO.ite ?_ ?_
      | refine LeO.bind ?_ (fun _ => ?_)
theorem super_Up.mono : ∀ a0 a1 a2 a3 k, LeO (super_Up.f k a0 a1 a2 a3) (super_Up.f (k + 1) a0 a1 a2 a3) := by
  intro a0 a1 a2 a3 k
  have ih0 := super_Up.mono_l k
  unfold super_Up.f
  repeat' first
      | (with_reducible exact ih0 _ _ _ _ _)
      | (with_reducible exact LeO.refl _)
      | (with_reducible exact LeO.none _)
      | (with_reducible refine LeO.ite ?_ ?_)
      | (with_reducible refine LeO.bind ?_ (fun _ => ?_))
      | exact ih0 _ _ _ _ _
      | exact LeO.none _
      | refine LeO.ite ?_ ?_
      | refine LeO.bind ?_ (fun _ => ?_)
set_option maxHeartbeats 8000000 in
set_option maxRecDepth 100000 in
theorem super_Up.calls (k : Nat) (A0 : Option Addr) (c0 : Nat) (l0 : List Int) (a1 : Int) (a2 : Int) (a3 : Int) (r : List Int) (w : World) (hr0 : Kd.C (Kd.int .i64) w A0 l0.length l0) (hc0 : l0.length ≤ c0) (h : super_Up.f k l0 a1 a2 a3 = some r) :
    Calls Try.prog 45 #[.slice A0 l0.length c0, .int .i64 a1, .int .i64 a2, .int .i64 a3] w fun e w' => ∃ v0_ : Value, e = .returned (v0_) ∧ Kd.R (Kd.int .i64) 3 w' w.heap.size (fun _ => True) v0_ r ∧ Below w.heap.size w w' := by
  have HR0 := Aside0.mk hr0
  have HC0 := Aside0.mk hc0
  clear hr0 hc0
  have HB := Aside0.mk (Below.refl w.heap.size w)
  have H : (super_Up.l0 k l0 a2 a3 ([] : List Int) (mx a1 0)) = some r := h
  clear h
  obtain ⟨ji5, hji5⟩ : ∃ j_ : Int, (mx a1 0) = j_ := ⟨_, rfl⟩
  replace H : (super_Up.l0 k l0 a2 a3 ([] : List Int) ji5) = some r := by first | (rw [hji5] at H; exact H) | (simp only [hji5] at H ⊢; exact H)
  (try (have hji5l : 0 ≤ ji5 := by (rw [← hji5]; unfold mx; (repeat' split) <;> omega)))
  (try (have hji5m : 0 ≤ ji5 := by omega))
  have hji5_ : (if a1 < 0 then 0 else a1) = ji5 := hji5
  have H' := Aside0.mk H
  clear H
  go_enter Try.func45, Try.ntmps45
  go_wp2
  go_loopg [9, 10] k (fun kq v9 v10 w' => ∃ (x9_1 : List Int) (x10_1 : Int), v10 = .int .i64 x10_1 ∧ Aside0 (super_Up.l0 kq l0 a2 a3 x9_1 x10_1 = some r) ∧ Aside0 (kq ≤ k) ∧ Aside0 (Kd.R (Kd.int .i64) 3 w' w.heap.size (fun _ => True) v9 x9_1) ∧ Aside0 (Below w.heap.size w w'))
  case atStart => exact ⟨(([] : List Int)), (ji5), (by first | rfl | (simp; done) | (simp only [← hji5] <;> (first | rfl | simp)) | (simp [*]; done)), H', ⟨Nat.le_refl _⟩, ⟨by first | exact Kd.R_nil _ _ _ _ _ | exact Kd.N_nil _ _ _ _ _ | exact Kd.V_nil _ _ _ _ _ | exact Kd.Q_nil _ _ _ _ _ | exact Kd.S_nil _ _ _ _ _⟩, ⟨by repeat (first | (with_reducible first | exact HB.out | apply below_alloc | apply pw_below_drewN | apply below_drew1) | exact HB.out)⟩⟩
  case round =>
    clear H'
    try clear p2
    try clear c4
    obtain ⟨x9_1, x10_1, rfl, HA, HK1, HO_9, HB⟩ := hrel
    cases gk with
    | zero => exact absurd HA.out (by simp [super_Up.l0])
    | succ k1 =>
      have H := HA.out
      clear HA
      simp only [super_Up.l0] at H
      obtain ⟨ji6, hji6⟩ : ∃ j_ : Int, (mn a2 (l0.length : Int)) = j_ := ⟨_, rfl⟩
      replace H : (if x10_1 < (ji6) then (if 0 ≤ x10_1 then (if x10_1 < (l0.length : Int) then (if (rd l0 x10_1) ≥ a3 then (if x9_1.length < 17592186044416 then (super_Up.l0 k1 l0 a2 a3 (x9_1 ++ [x10_1]) (wrap64 (x10_1 + 1))) else (none)) else (super_Up.l0 k1 l0 a2 a3 x9_1 (wrap64 (x10_1 + 1)))) else (none)) else (none)) else (some x9_1)) = some r := by first | (rw [hji6] at H; exact H) | (simp only [hji6] at H ⊢; exact H)
      have hji6_ : (if (l0.length : Int) < a2 then (l0.length : Int) else a2) = ji6 := hji6
      by_cases c7 : x10_1 < (ji6)
      · rw [if_pos c7] at H
        have c7b0 : decide (x10_1 < (ji6)) = true := decide_eq_true c7
        clear c7
        by_cases c8 : 0 ≤ x10_1
        · rw [if_pos c8] at H
          have c8b0 : decide (0 ≤ x10_1) = true := decide_eq_true c8
          clear c8
          by_cases c9 : x10_1 < (l0.length : Int)
          · rw [if_pos c9] at H
            have c9b0 : decide (x10_1 < (l0.length : Int)) = true := decide_eq_true c9
            clear c9
            by_cases c10 : (rd l0 x10_1) ≥ a3
            · rw [if_pos c10] at H
              have c10b0 : decide (a3 ≤ (rd l0 x10_1)) = true := decide_eq_true c10
              clear c10
              by_cases c11 : x9_1.length < 17592186044416
              · rw [if_pos c11] at H
                have LMc11 := Aside0.mk c11
                clear c11
                obtain ⟨y373, hy373⟩ : ∃ y_ : List Int, y_ = (x9_1 ++ [x10_1]) := ⟨_, rfl⟩
                replace H : (super_Up.l0 k1 l0 a2 a3 y373 (wrap64 (x10_1 + 1))) = some r := by first | (rw [hy373]; with_reducible exact H) | (have H2_ := (Option.bind_some _ _).symm.trans H; rw [hy373]; with_reducible exact H2_) | (have H2_ := (Option.bind_some _ _).symm.trans H; with_reducible exact H2_) | with_reducible exact H | (rw [hy373]; exact H) | exact H
                have Ny373 := Aside0.mk hy373
                clear hy373
                have H' := Aside0.mk H
                clear H
                have p372 : 0 ≤ (x10_1 : Int) := of_decide_eq_true (by first | (with_reducible assumption) | assumption)
                have q372 : x10_1 < (l0.length : Int) := of_decide_eq_true (by first | (with_reducible assumption) | assumption)
                obtain ⟨ad372, e372, hx372_0⟩ := Kd.at_int HR0.out x10_1 p372 q372
                cases e372
                replace hx372_0 := (HB.out.cell (World.block_lt_of_cell? w _ hx372_0)).trans hx372_0
                replace p372 := eq_true p372
                replace q372 := eq_true q372
                go_wp2_with (first | ((with_reducible refine gate_builtin (b := .append) (xs := #[.tmp 27, .tmp 29]) rfl ?_); at_builtin; refine Kd.R_append (Kd.int .i64) (w0 := w) w.heap.size rfl (.tmp 27) (.tmp 29) 26 3 (.int .i64 0) 8 rfl Try.underlying26 info3 rfl (by decide) (by omega) u9 x9_1 x10_1 [.int .i64 x10_1] (fun _ => True) (fun _ => False) rfl rfl ?aP (fun _ hk => hk.elim) ?aF ?aO ?aB ?aS ?aL ?_; (case aP => exact rfl); (case aB => exact (by repeat (first | (with_reducible first | exact HB.out | apply below_alloc | apply pw_below_drewN | apply below_drew1) | exact HB.out))); (case aF => exact (fun _ _ => trivial)); (case aO => exact (by (with_reducible repeat (first | apply Kd.R_alloc | apply Kd.R_drewN | apply Kd.R_drew)); exact HO_9.out)); (case aS => exact (below_size (by repeat (first | (with_reducible first | exact HB.out | apply below_alloc | apply pw_below_drewN | apply below_drew1) | exact HB.out)))); (case aL => have := LMc11.out; omega); intro v374 w12 ho hb hg hat; rw [← Ny373.out] at ho; have n0_ := Aside0.mk (hb); have n1_ := Aside0.mk (ho); clear HB; clear HO_9; have HB := n0_; have HO375 := n1_; clear n0_ n1_; clear ho hb hg hat))
                go_roundg k1
                case measure => have := HK1.out; omega
                case rel => exact ⟨(y373), (wrap64 (x10_1 + 1)), (by first | rfl | (simp; done) | (simp [*]; done)), H', ⟨by have := HK1.out; omega⟩, ⟨by (with_reducible repeat (first | apply Kd.R_alloc | apply Kd.R_drewN | apply Kd.R_drew)); exact HO375.out⟩, ⟨by repeat (first | (with_reducible first | exact HB.out | apply below_alloc | apply pw_below_drewN | apply below_drew1) | exact HB.out)⟩⟩
              · rw [if_neg c11] at H
                exact absurd H (by simp)
            · rw [if_neg c10] at H
              have c10b0 : decide (a3 ≤ (rd l0 x10_1)) = false := decide_eq_false c10
              clear c10
              have H' := Aside0.mk H
              clear H
              have p372 : 0 ≤ (x10_1 : Int) := of_decide_eq_true (by first | (with_reducible assumption) | assumption)
              have q372 : x10_1 < (l0.length : Int) := of_decide_eq_true (by first | (with_reducible assumption) | assumption)
              obtain ⟨ad372, e372, hx372_0⟩ := Kd.at_int HR0.out x10_1 p372 q372
              cases e372
              replace hx372_0 := (HB.out.cell (World.block_lt_of_cell? w _ hx372_0)).trans hx372_0
              replace p372 := eq_true p372
              replace q372 := eq_true q372
              go_wp2
              go_roundg k1
              case measure => have := HK1.out; omega
              case rel => exact ⟨(x9_1), (wrap64 (x10_1 + 1)), (by first | rfl | (simp; done) | (simp [*]; done)), H', ⟨by have := HK1.out; omega⟩, ⟨by (with_reducible repeat (first | apply Kd.R_alloc | apply Kd.R_drewN | apply Kd.R_drew)); exact HO_9.out⟩, ⟨by repeat (first | (with_reducible first | exact HB.out | apply below_alloc | apply pw_below_drewN | apply below_drew1) | exact HB.out)⟩⟩
          · rw [if_neg c9] at H
            exact absurd H (by simp)
        · rw [if_neg c8] at H
          exact absurd H (by simp)
      · rw [if_neg c7] at H
        have c7b0 : decide (x10_1 < (ji6)) = false := decide_eq_false c7
        clear c7
        obtain rfl := Option.some.inj H
        go_wp2
        go_ret
        exact ⟨_, by first | rfl | (simp [errW_none, errW_some] <;> rfl) | (simp only [← hji5, ← hji6]; first | rfl | (simp [errW_none, errW_some] <;> rfl)) | (simp [*, errW_none, errW_some] <;> rfl), by (with_reducible repeat (first | apply Kd.R_alloc | apply Kd.R_drewN | apply Kd.R_drew)); exact HO_9.out, by repeat (first | (with_reducible first | exact HB.out | apply below_alloc | apply pw_below_drewN | apply below_drew1) | exact HB.out)⟩

end Go.Proofs.Yteekdggainficaa.X
end

section
/- The plain functions that the program's own functions come to: no program in sight. -/
namespace Go.Proofs.Yteekdggainficaa.X
open Go.Proofs.YteekdggainficaaW.PrintWords

/-- A level that may not be. -/
def S.oddB (n : Int) : Bool := decide (n < 0 ∨ 31 < n)
/-- super.May -/
def S.mayB (l : List Int) : Bool := decide (0 < l.length) && (decide (l.length ≤ 200) && (decide (rd l 0 = 31) && !l.any S.oddB))
/-- super.Up, the places from i on, the rest of the levels at hand. -/
def S.upFrom : List Int → Int → Int → Int → Int → List Int
  | [], _, _, _, _ => []
  | x :: l, i, fr, hi, n => if fr ≤ i ∧ i < hi ∧ n ≤ x then i :: S.upFrom l (i + 1) fr hi n else S.upFrom l (i + 1) fr hi n
/-- super.Up -/
def S.upZ (l : List Int) (fr hi n : Int) : List Int := S.upFrom l 0 fr hi n
/-- The m-th last of some places; 0, if there are not as many. -/
def S.mthLast (a : List Int) (m : Int) : Int := if m ≤ (a.length : Int) then rd a ((a.length : Int) - m) else 0
/-- super.climb: from where the i-th level from the highest one on is taken. -/
def S.climbAt (l : List Int) (m k : Int) : Nat → Int
  | 0 => 0
  | i + 1 => if m < ((S.upZ l (S.climbAt l m k i) ((l.length : Int) - k) (31 - (i : Int))).length : Int) then rd (S.upZ l (S.climbAt l m k i) ((l.length : Int) - k) (31 - (i : Int))) (((S.upZ l (S.climbAt l m k i) ((l.length : Int) - k) (31 - (i : Int))).length : Int) - m) else S.climbAt l m k i
/-- Can something be taken at all? -/
def S.okB (l : List Int) (m k : Int) : Bool := S.mayB l && (decide (1 ≤ m) && (decide (1 ≤ k) && decide (k < (l.length : Int))))
/-- super.From -/
def S.fromZ (l : List Int) (m k n : Int) : Int := if S.okB l m k = true then (if 31 < n then 0 else S.mthLast (S.upZ l 0 ((l.length : Int) - k) (n + 1)) m) else -1
/-- The places that are taken. -/
def S.takenL (l : List Int) (m k : Int) : List Int := (S.upZ l 0 ((l.length : Int) - k) 0).filter fun i => decide (S.fromZ l m k (rd l i) ≤ i)
/-- super.Prefix -/
def S.prefZ (l : List Int) (m k : Int) : List Int × Bool := if S.okB l m k = true then (S.takenL l m k, true) else ([], false)
/-- How many places of a level at least there are from i on. -/
def S.cntZ (l : List Int) (i n : Int) : Int := ((S.upZ l i (l.length : Int) n).length : Int)
/-- What good.all comes to: is it so of each place of a level at least from which on there are m? -/
def S.allB (l : List Int) (n m : Int) (is : Int → Int → Bool) : Bool := (S.upZ l 0 (l.length : Int) n).all fun i => !(decide (m ≤ S.cntZ l i n)) || is i (S.cntZ l i n)
/-- good.Fair -/
def S.fairB (l : List Int) (n m : Int) : Bool := S.mayB l && (decide (0 ≤ n) && (decide (n ≤ 31) && (decide (1 ≤ m) && S.allB l n m fun i c => decide ((l.length : Int) - i < c * 2 ^ (n + 1).toNat))))
/-- good.Good -/
def S.goodB (l : List Int) (m : Int) : Bool := S.mayB l && (decide (1 ≤ m) && (List.range 31).all fun n => S.allB l ((n : Int) + 1) m fun i c => decide (S.cntZ l i n < 4 * c))
end Go.Proofs.Yteekdggainficaa.X
end

section
/- super.Up as the print has it comes to S.upZ; what S.upZ is. -/
namespace Go.Proofs.Yteekdggainficaa.X
open Go.RowKit Go.Proofs.YteekdggainficaaW.PrintWords

theorem E.wrap_id {x : Int} (h0 : -9223372036854775808 ≤ x) (h1 : x ≤ 9223372036854775807) : wrap64 x = x := by
  unfold wrap64
  omega

theorem E.rd_drop (l : List Int) (i : Nat) (x : Int) (t : List Int) (h : l.drop i = x :: t) : rd l i = x ∧ i < l.length ∧ l.drop (i + 1) = t := by
  have hi : i < l.length := by
    rcases Nat.lt_or_ge i l.length with h1 | h1
    · exact h1
    · rw [List.drop_of_length_le h1] at h; cases h
  rw [List.drop_eq_getElem_cons hi] at h
  injection h with h1 h2
  exact ⟨by simp [rd, List.getElem?_eq_getElem hi, List.getD_eq_getElem?_getD, h1], hi, h2⟩

theorem E.upFrom_none (l : List Int) (i fr hi n : Int) (h : hi ≤ i) : S.upFrom l i fr hi n = [] := by
  induction l generalizing i with
  | nil => rfl
  | cons x t ih =>
    unfold S.upFrom
    rw [if_neg (by omega)]
    exact ih (i + 1) (by omega)

theorem E.upFrom_skip (d : Nat) : ∀ (l : List Int) (i fr hi n : Int), i + d ≤ fr → S.upFrom l i fr hi n = S.upFrom (l.drop d) (i + d) fr hi n := by
  induction d with
  | zero => intro l i fr hi n _; simp
  | succ d ih =>
    intro l i fr hi n h
    cases l with
    | nil => simp [S.upFrom]
    | cons x t =>
      conv => lhs; unfold S.upFrom
      rw [if_neg (by omega), ih t (i + 1) fr hi n (by omega), List.drop_succ_cons]
      congr 1
      omega

theorem E.up_l0 (l : List Int) (hi n : Int) (hl : l.length ≤ 17592186044415) (d : Nat) : ∀ (k i : Nat) (fr : Int) (acc : List Int), l.length - i = d → i ≤ l.length → fr ≤ i → acc.length ≤ i → d < k →
    super_Up.l0 k l hi n acc i = some (acc ++ S.upFrom (l.drop i) i fr hi n) := by
  induction d with
  | zero =>
    intro k i fr acc hd hi' hfr hacc hk
    obtain ⟨k, rfl⟩ : ∃ m, k = m + 1 := ⟨k - 1, by omega⟩
    simp only [super_Up.l0]
    rw [if_neg (by unfold mn; split <;> omega), List.drop_of_length_le (by omega)]
    simp [S.upFrom]
  | succ d ih =>
    intro k i fr acc hd hi' hfr hacc hk
    obtain ⟨k, rfl⟩ : ∃ m, k = m + 1 := ⟨k - 1, by omega⟩
    have hlt : i < l.length := by omega
    have hdr := List.drop_eq_getElem_cons hlt
    have hrd : rd l i = l[i] := by simp [rd, List.getElem?_eq_getElem hlt, List.getD_eq_getElem?_getD]
    have hw : wrap64 ((i : Int) + 1) = ((i + 1 : Nat) : Int) := by rw [E.wrap_id (by omega) (by omega)]; omega
    simp only [super_Up.l0]
    by_cases hc : (i : Int) < hi
    · rw [if_pos (by unfold mn; split <;> omega), if_pos (by omega), if_pos (by omega), hrd, hdr, hw]
      by_cases hx : l[i] ≥ n
      · rw [if_pos hx, if_pos (by omega), ih k (i + 1) fr _ (by omega) (by omega) (by omega) (by simp; omega) (by omega)]
        conv => rhs; unfold S.upFrom
        rw [if_pos ⟨hfr, hc, hx⟩]
        simp
      · rw [if_neg hx, ih k (i + 1) fr _ (by omega) (by omega) (by omega) (by omega) (by omega)]
        conv => rhs; unfold S.upFrom
        rw [if_neg (by omega)]
        simp
    · rw [if_neg (by unfold mn; split <;> omega), E.upFrom_none _ _ _ _ _ (by omega)]
      simp

theorem E.up_f (l : List Int) (fr hi n : Int) (hl : l.length ≤ 17592186044415) (k : Nat) (hk : l.length + 1 < k) : super_Up.f k l fr hi n = some (S.upZ l fr hi n) := by
  unfold super_Up.f S.upZ
  by_cases h0 : fr ≤ 0
  · have : mx fr 0 = ((0 : Nat) : Int) := by unfold mx; split <;> omega
    rw [this, E.up_l0 l hi n hl l.length k 0 fr [] (by omega) (by omega) (by omega) (by simp) (by omega)]
    simp
  · obtain ⟨f, rfl⟩ : ∃ f : Nat, fr = f := ⟨fr.toNat, by omega⟩
    have : mx (f : Int) 0 = (f : Int) := by unfold mx; split <;> omega
    rw [this]
    by_cases hf : f ≤ l.length
    · rw [E.up_l0 l hi n hl (l.length - f) k f f [] rfl hf (by omega) (by simp) (by omega), E.upFrom_skip f l 0 f hi n (by omega)]
      simp
    · obtain ⟨k, rfl⟩ : ∃ m, k = m + 1 := ⟨k - 1, by omega⟩
      simp only [super_Up.l0]
      rw [if_neg (by unfold mn; split <;> omega), E.upFrom_skip f l 0 f hi n (by omega), List.drop_of_length_le (by omega)]
      simp [S.upFrom]

end Go.Proofs.Yteekdggainficaa.X
end

section
/- super.May and what it calls: each comes to its plain function. -/
namespace Go.Proofs.Yteekdggainficaa.X
open Go.RowKit Go.Proofs.YteekdggainficaaW.PrintWords Go.Proofs.YteekdggainficaaW.PrintLast Go.Proofs.YteekdggainficaaW.PrintMore

theorem E.odd_calls (n : Int) (w : World) : Calls Try.prog 35 #[.int .i64 n] w fun e w' => e = .returned (.bool (S.oddB n)) ∧ w = w' := by
  unfold S.oddB
  by_cases h1 : n < 0
  · have b1 : decide (n < 0) = true := by simpa using h1
    have hd : decide (n < 0 ∨ 31 < n) = true := by simp [h1]
    rw [hd]; clear hd
    go_enter Try.func35, Try.ntmps35
    go_wp2
    go_ret
    exact ⟨rfl, rfl⟩
  · have b1 : decide (n < 0) = false := by simpa using h1
    have hd : decide (n < 0 ∨ 31 < n) = decide (31 < n) := by simp [h1]
    rw [hd]; clear hd
    go_enter Try.func35, Try.ntmps35
    go_wp2
    go_ret
    exact ⟨rfl, rfl⟩

/-- What slices.IndexFunc hands back. -/
def E.Idx (l : List Int) (w : World) (e : Ending) (w' : World) : Prop := ∃ x : Int, -1 ≤ x ∧ decide (0 ≤ x) = l.any S.oddB ∧ e = .returned (.int .i64 x) ∧ Drawn0 w w'

theorem E.any_hit {l : List Int} {k : Nat} (hk : k < l.length) (h : S.oddB (rd l k) = true) : l.any S.oddB = true := by
  rw [List.any_eq_true]
  refine ⟨l[k], List.getElem_mem hk, ?_⟩
  have : rd l k = l[k] := by simp [rd, List.getElem?_eq_getElem hk, List.getD_eq_getElem?_getD]
  rw [← this]; exact h
theorem E.any_miss {l : List Int} (h : ∀ j : Nat, j < l.length → S.oddB (rd l j) = false) : l.any S.oddB = false := by
  rw [List.any_eq_false]
  intro x hx
  obtain ⟨j, hj, rfl⟩ := List.getElem_of_mem hx
  have : rd l j = l[j] := by simp [rd, List.getElem?_eq_getElem hj, List.getD_eq_getElem?_getD]
  rw [← this, h j hj]; simp

set_option maxHeartbeats 1000000 in
theorem E.index_calls (A0 : Option Addr) (c0 : Nat) (l0 : List Int) (w : World) (hr0 : Kd.C (Kd.int .i64) w A0 l0.length l0) :
    Calls Try.prog 44 #[.slice A0 l0.length c0, .func (.func 35) #[] #[]] w (E.Idx l0 w) := by
  have hmax := Kd.C_max hr0
  have HR0 := Aside0.mk hr0
  clear hr0
  go_enter Try.func44, Try.ntmps44
  go_wp2
  go_loopg [5, 8] l0.length (fun kq _ v8 w' => ∃ k : Nat, v8 = .int .i64 k ∧ k ≤ l0.length ∧ l0.length - k ≤ kq ∧ Aside0 (∀ j : Nat, j < k → S.oddB (rd l0 j) = false) ∧ Drawn0 w w')
  case atStart => exact ⟨0, rfl, Nat.zero_le _, by omega, ⟨fun j hj => absurd hj (Nat.not_lt_zero _)⟩, Drawn0.refl _⟩
  case round =>
    obtain ⟨k, rfl, hk, hg, HA, ⟨m1, rfl⟩⟩ := hrel
    by_cases hlt : k < l0.length
    · have hltz : (k : Int) < (l0.length : Int) := by omega
      have p1 : 0 ≤ (k : Int) := by omega
      have cb : decide ((k : Int) < (l0.length : Int)) = true := by simpa using hltz
      obtain ⟨ad, e1, hx⟩ := Kd.at_int HR0.out k p1 hltz
      cases e1
      rw [Int.toNat_natCast] at hx
      generalize hy : rd l0 k = y at hx
      have HY := Aside0.mk hy
      clear hy
      cases hq : S.oddB y with
      | true =>
        have HQ := Aside0.mk hq
        clear hq
        go_wp2_with (go_at_call 35; refine (E.odd_calls _ _).mono ?_; rw [HQ.out]; rintro e w' ⟨rfl, rfl⟩)
        go_ret
        exact ⟨k, by omega, by rw [E.any_hit hlt (by rw [HY.out]; exact HQ.out)]; simp, rfl, by repeat (first | exact Drawn0.refl _ | apply Drawn0.step)⟩
      | false =>
        have HQ := Aside0.mk hq
        clear hq
        go_wp2_with (go_at_call 35; refine (E.odd_calls _ _).mono ?_; rw [HQ.out]; rintro e w' ⟨rfl, rfl⟩)
        go_roundg (l0.length - (k + 1))
        case measure => omega
        case rel =>
          refine ⟨k + 1, by go_num, by omega, by omega, ⟨fun j hj => ?_⟩, by repeat (first | exact Drawn0.refl _ | apply Drawn0.step)⟩
          by_cases e : j = k
          · subst e
            rw [HY.out]; exact HQ.out
          · exact HA.out j (by omega)
    · have hltz : ¬ (k : Int) < (l0.length : Int) := by omega
      have cb : decide ((k : Int) < (l0.length : Int)) = false := by simpa using hltz
      obtain rfl : k = l0.length := by omega
      go_wp2
      go_ret
      exact ⟨-1, by omega, by rw [E.any_miss HA.out]; simp, rfl, by repeat (first | exact Drawn0.refl _ | apply Drawn0.step)⟩

theorem E.contains_calls (A0 : Option Addr) (c0 : Nat) (l0 : List Int) (w : World) (hr0 : Kd.C (Kd.int .i64) w A0 l0.length l0) :
    Calls Try.prog 36 #[.slice A0 l0.length c0, .func (.func 35) #[] #[]] w fun e w' => e = .returned (.bool (l0.any S.oddB)) ∧ Drawn0 w w' := by
  have HR0 := Aside0.mk hr0
  clear hr0
  go_enter Try.func36, Try.ntmps36
  go_wp2_with (go_at_call 44; refine (E.index_calls _ _ _ _ HR0.out).mono ?_; rintro e w' ⟨x, hx1, hx2, rfl, hd⟩; have HX := Aside0.mk hx2; clear hx2)
  go_ret
  exact ⟨by rw [HX.out]; rfl, hd⟩

/-- super.May -/
theorem E.may_calls (A0 : Option Addr) (c0 : Nat) (l0 : List Int) (w : World) (hr0 : Kd.C (Kd.int .i64) w A0 l0.length l0) (_hc0 : l0.length ≤ c0) :
    Calls Try.prog 24 #[.slice A0 l0.length c0] w fun e w' => e = .returned (.bool (S.mayB l0)) ∧ Drawn0 w w' := by
  have HR0 := Aside0.mk hr0
  clear hr0
  unfold S.mayB
  by_cases h1 : 0 < l0.length
  · have b1 : decide ((0 : Int) < (l0.length : Int)) = true := by rw [decide_eq_true_eq]; omega
    have b1' : decide (0 < l0.length) = true := by rw [decide_eq_true_eq]; omega
    by_cases h2 : l0.length ≤ 200
    · have b2 : decide ((l0.length : Int) ≤ 200) = true := by rw [decide_eq_true_eq]; omega
      have b2' : decide (l0.length ≤ 200) = true := by rw [decide_eq_true_eq]; omega
      obtain ⟨ad, e1, hx⟩ := Kd.at_int HR0.out 0 (by omega) (by omega)
      cases e1
      rw [Int.toNat_zero, Addr.add_zero'] at hx
      by_cases h3 : rd l0 0 = 31
      · rw [b1', b2', show decide (rd l0 0 = 31) = true from by rw [decide_eq_true_eq]; exact h3, Bool.true_and, Bool.true_and, Bool.true_and]
        have b3 : (rd l0 0 == 31) = true := beq_iff_eq.mpr h3
        clear b1' b2' h3
        go_enter Try.func24, Try.ntmps24
        go_wp2_with (go_at_call 36; refine (E.contains_calls _ _ _ _ HR0.out).mono ?_; rintro e w' ⟨rfl, ⟨m, rfl⟩⟩)
        go_ret
        exact ⟨rfl, ⟨_, rfl⟩⟩
      · rw [b1', b2', show decide (rd l0 0 = 31) = false from by rw [decide_eq_false_iff_not]; exact h3, Bool.true_and, Bool.true_and, Bool.false_and]
        have b3 : (rd l0 0 == 31) = false := beq_eq_false_iff_ne.mpr h3
        clear b1' b2' h3
        go_enter Try.func24, Try.ntmps24
        go_wp2
        go_ret
        exact ⟨rfl, Drawn0.refl _⟩
    · have b2 : decide ((l0.length : Int) ≤ 200) = false := by rw [decide_eq_false_iff_not]; omega
      have b2' : decide (l0.length ≤ 200) = false := by rw [decide_eq_false_iff_not]; omega
      rw [b1', b2', Bool.true_and, Bool.false_and]
      clear b1' b2'
      go_enter Try.func24, Try.ntmps24
      go_wp2
      go_ret
      exact ⟨rfl, Drawn0.refl _⟩
  · have b1 : decide ((0 : Int) < (l0.length : Int)) = false := by rw [decide_eq_false_iff_not]; omega
    have b1' : decide (0 < l0.length) = false := by rw [decide_eq_false_iff_not]; omega
    rw [b1', Bool.false_and]
    clear b1'
    go_enter Try.func24, Try.ntmps24
    go_wp2
    go_ret
    exact ⟨rfl, Drawn0.refl _⟩

end Go.Proofs.Yteekdggainficaa.X
end

section
/- A range over a function whose elements are known ahead: what the iterator owes, and the statement's law. Over any program, at the fence that asks nothing. -/
namespace Go.Proofs.Yteekdggainficaa.X
open Go.RowKit

/-- What lies from B on lies as it lay. -/
def E.KeepsOn (B : Nat) (W W' : World) : Prop := W.heap.size ≤ W'.heap.size ∧ ∀ b, B ≤ b → b < W.heap.size → W'.heap[b]? = W.heap[b]?
theorem E.KeepsOn.refl (B : Nat) (W : World) : E.KeepsOn B W W := ⟨Nat.le_refl _, fun _ _ _ => rfl⟩
theorem E.KeepsOn.trans {B : Nat} {X Y Z : World} (h : E.KeepsOn B X Y) (k : E.KeepsOn B Y Z) : E.KeepsOn B X Z :=
  ⟨Nat.le_trans h.1 k.1, fun b hb hl => (k.2 b hb (Nat.lt_of_lt_of_le hl h.1)).trans (h.2 b hb hl)⟩
theorem E.KeepsOn.mono {B B' : Nat} {X Y : World} (h : E.KeepsOn B X Y) (hb : B ≤ B') : E.KeepsOn B' X Y := ⟨h.1, fun b hb' hl => h.2 b (Nat.le_trans hb hb') hl⟩
theorem E.KeepsOn.of_below {B : Nat} {X Y : World} (h : Below X.heap.size X Y) : E.KeepsOn B X Y := ⟨h.size, fun b _ hl => h.block b hl⟩
theorem E.KeepsOn.setCell (B : Nat) (W : World) (a : Addr) (v : Value) (h : a.block < B) : E.KeepsOn B W (W.setCell a v) :=
  ⟨by simp, fun b hb _ => Below.heap_setCell W a v b (by omega)⟩

/-- THE ITERATOR's WORD: it hands on els, one by one, to whatever loop keeps from its start on what lies there; R: what it reads. -/
def E.SeqB {α : Type} (P : Program) (g : Nat) (lb : Array Value) (encs : α → Array Value) (els : List α) (R : World → Prop) : Prop :=
  ∀ (l : Nat) (J Jx : Nat → World → Prop) (W : World),
    (∀ k A B, J k A → Below W.heap.size A B → J k B) → (∀ k A B, Jx k A → Below W.heap.size A B → Jx k B) → (∀ k A, J k A → R A ∧ W.heap.size ≤ A.heap.size) →
    (∀ k x A, els[k]? = some x → J k A → YieldAt Fence.wide 0 P l (encs x) A fun e A' =>
      (e = .returned (.bool true) ∧ J (k + 1) A' ∧ E.KeepsOn W.heap.size A A') ∨ (e = .returned (.bool false) ∧ Jx k A' ∧ E.KeepsOn W.heap.size A A')) →
    J 0 W →
    CallsIn Fence.wide 0 P g (#[.func (.yield l) #[] #[]] ++ lb) W fun e W' => (∃ v, e = .returned v) ∧ (J els.length W' ∨ ∃ k, k < els.length ∧ Jx k W') ∧ W.heap.size ≤ W'.heap.size

/-- How a round may end: it goes on, or the function returns. -/
def E.roundPost (B : Nat) (I Ix : Nat → World → Prop) (k : Nat) (W : World) : Exit → Act → World → Prop
  | .normal, _, W' => E.KeepsOn B W W' ∧ I (k + 1) W'
  | .ret, _, W' => E.KeepsOn B W W' ∧ Ix k W'
  | .exit _, _, _ => False
  | .goto _, _, _ => False
  | .panic _, _, _ => False
  | .outgrown, _, _ => False

theorem E.below_put {B : Nat} {W : World} {l : Nat} {o o' : Obj} (h : W.heap[l]? = some o) (hB : B ≤ l) : Below B W (W.putObj l o') :=
  (Below.refl B W).grown (grownBy_putObj' W l o') (by have := (Array.getElem?_eq_some_iff.1 h).1; omega) (fun k e => by cases e; exact hB)

theorem E.rangeLaw {α : Type} {P : Program} {g : Operand} {ps : Array Tmp} {assign body : Code} {Q : Exit → Act → World → Prop} {a : Act} {w : World} {gf : Nat} {lb : Array Value} (hg : a.eval g = .func (.func gf) #[] lb)
    (eg : ∀ args w, (callFunc gf args).run P w = .ok (.enter gf args) w) {encs : α → Array Value} {els : List α} {R : World → Prop} (hseq : E.SeqB P gf lb encs els R) (hps : ∀ x, (encs x).size = ps.size)
    (I Ix : Nat → World → Prop) (hI : ∀ k A B, I k A → Below w.heap.size A B → I k B) (hIx : ∀ k A B, Ix k A → Below w.heap.size A B → Ix k B) (hR : ∀ k A, I k A → R A) (h0 : I 0 w) (a₁ : α → Act)
    (hassign : ∀ (l : Nat) (x : α) (W : World) (K : Act → World → Prop), K (a₁ x) W →
      assign.wpIn (Fence.wide.inRound l) 0 P (Exit.then K (fun _ _ _ => False)) { tmps := (ps.zip (encs x)).foldl (fun t (p, v) => t.setIfInBounds p v) a.tmps, defers := [] } W)
    (hbody : ∀ (l k : Nat) (x : α) (W : World), els[k]? = some x → w.heap.size + 2 ≤ W.heap.size → I k W → body.wpIn (Fence.wide.inRound l) 0 P (E.roundPost w.heap.size I Ix k W) (a₁ x) W)
    (hdone : ∀ (W : World), w.heap.size + 2 ≤ W.heap.size → I els.length W → W.heap[w.heap.size]? = some (.deferred (some [])) → Q .normal { a with defers := { target := .collected w.heap.size, args := #[] } :: a.defers } W)
    (hstop : ∀ (k : Nat) (W : World), w.heap.size + 2 ≤ W.heap.size → k < els.length → Ix k W → W.heap[w.heap.size]? = some (.deferred (some [])) → Code.ret.wpIn Fence.wide 0 P Q { a with defers := { target := .collected w.heap.size, args := #[] } :: a.defers } W) :
    (Code.rangeFunc g ps assign body).wpIn Fence.wide 0 P Q a w := by
  refine wpIn_rangeFunc ?_
  intro fn hfn
  rw [show Fence.wide.round = none from rfl]
  obtain ⟨rec, hrec⟩ : ∃ rec : LoopState → Option Code → Loop, rec = fun st pe => { state := st, pending := pe, fn, tmps := a.tmps, params := ps, assign, body, defers := w.heap.size } := ⟨_, rfl⟩
  obtain ⟨W1, hW1⟩ : ∃ W1, (w.alloc (.deferred (some []))).alloc (.loop (rec .ready none)) = W1 := ⟨_, rfl⟩
  have hL1 : W1.heap[w.heap.size + 1]? = some (.loop (rec .ready none)) := by
    rw [← hW1]; have := World.alloc_heap_new (w.alloc (.deferred (some []))) (.loop (rec .ready none)); rwa [World.size_alloc] at this
  have hK1 : W1.heap[w.heap.size]? = some (.deferred (some [])) := by
    rw [← hW1]; exact (Below.heap_alloc _ _ _ (by simp)).trans (World.alloc_heap_new w _)
  have hb1 : Below w.heap.size w W1 := by
    rw [← hW1]; exact ((Below.refl _ w).alloc (Nat.le_refl _) _).alloc (by simp) _
  have hs1 : W1.heap.size = w.heap.size + 2 := by rw [← hW1]; simp
  have hI1 : I 0 W1 := hI _ _ _ h0 hb1
  refine ⟨w.heap.size + 1, [{ target := .collected w.heap.size, args := #[] }], W1, { target := .fn (.func gf) lb, args := #[.func (.yield (w.heap.size + 1)) #[] #[]] }, W1, gf,
    #[.func (.yield (w.heap.size + 1)) #[] #[]] ++ lb, W1, ?_, ?_, ?_, ?_, (fun h => by cases h), ?_⟩
  · rw [← hW1, hrec]; exact run_enterLoop_outer _ _ _ _ _
  · simp only [resolve, hg]
    simp [go_sem]
  · intro f' hf'; exact trivial
  · simp [invoke, go_sem, eg]
  · refine (hseq (w.heap.size + 1)
      (fun k W => I k W ∧ W.heap[w.heap.size + 1]? = some (.loop (rec .ready none)) ∧ W.heap[w.heap.size]? = some (.deferred (some [])))
      (fun k W => Ix k W ∧ W.heap[w.heap.size + 1]? = some (.loop (rec .done (some .ret))) ∧ W.heap[w.heap.size]? = some (.deferred (some [])))
      W1 ?_ ?_ ?_ ?_ ⟨hI1, hL1, hK1⟩).mono ?_
    · rintro k A B ⟨h1, h2, h3⟩ hb
      exact ⟨hI _ _ _ h1 (hb.mono (by omega)), (hb.block _ (by omega)).trans h2, (hb.block _ (by omega)).trans h3⟩
    · rintro k A B ⟨h1, h2, h3⟩ hb
      exact ⟨hIx _ _ _ h1 (hb.mono (by omega)), (hb.block _ (by omega)).trans h2, (hb.block _ (by omega)).trans h3⟩
    · rintro k A ⟨h1, h2, h3⟩
      have := (Array.getElem?_eq_some_iff.1 h2).1
      exact ⟨hR _ _ h1, by omega⟩
    · -- one round
      rintro k x W hx ⟨hi, hl, hk⟩
      have hlt : w.heap.size + 1 < W.heap.size := (Array.getElem?_eq_some_iff.1 hl).1
      have hy := run_yield (P := P) (args := encs x) hl (by rw [hrec]; exact hps x)
      rw [hrec] at hy
      refine ⟨fn, _, assign, body, hy, roundIn_of_wpIn hfn (hassign _ x W _ ⟨_, run_beginRound hl (by rw [hrec]), ?_⟩)⟩
      have hl2 : (W.putObj (w.heap.size + 1) (.loop { rec .ready none with state := .busy })).heap[w.heap.size + 1]? = some (.loop { rec .ready none with state := .busy }) := World.putObj_heap_same hlt
      have hk2 : (W.putObj (w.heap.size + 1) (.loop { rec .ready none with state := .busy })).heap[w.heap.size]? = some (.deferred (some [])) := (World.putObj_heap_other (by omega)).trans hk
      have hw2 : E.KeepsOn W1.heap.size W (W.putObj (w.heap.size + 1) (.loop { rec .ready none with state := .busy })) := ⟨by simp, fun b hb _ => World.putObj_heap_other (by omega)⟩
      refine wpIn_mono (hbody _ k x _ hx (by simp; omega) (hI _ _ _ hi (E.below_put hl (by omega)))) ?_
      have fin : ∀ (jump : Option Code) (W3 : World), E.KeepsOn w.heap.size (W.putObj (w.heap.size + 1) (.loop { rec .ready none with state := .busy })) W3 →
          (Instr.endRound (w.heap.size + 1) jump).run P W3 = .ok (.bool jump.isNone) (W3.putObj (w.heap.size + 1) (.loop (rec (if jump.isNone then .ready else .done) jump))) ∧
          W3.heap[w.heap.size + 1]? = some (.loop { rec .ready none with state := .busy }) ∧
          (W3.putObj (w.heap.size + 1) (.loop (rec (if jump.isNone then .ready else .done) jump))).heap[w.heap.size + 1]? = some (.loop (rec (if jump.isNone then .ready else .done) jump)) ∧
          (W3.putObj (w.heap.size + 1) (.loop (rec (if jump.isNone then .ready else .done) jump))).heap[w.heap.size]? = some (.deferred (some [])) ∧
          E.KeepsOn W1.heap.size W (W3.putObj (w.heap.size + 1) (.loop (rec (if jump.isNone then .ready else .done) jump))) := fun jump W3 hk3 => by
        have hl3 := (hk3.2 (w.heap.size + 1) (by omega) (by simp; omega)).trans hl2
        have := run_endRound (P := P) jump hl3
        rw [hrec] at this ⊢
        refine ⟨this, by rw [hrec] at hl3; exact hl3, World.putObj_heap_same (Array.getElem?_eq_some_iff.1 hl3).1, (World.putObj_heap_other (by omega)).trans ((hk3.2 w.heap.size (Nat.le_refl _) (by simp; omega)).trans hk2), ?_⟩
        exact hw2.trans ((hk3.mono (B' := W1.heap.size) (by omega)).trans ⟨by simp, fun b hb _ => World.putObj_heap_other (by omega)⟩)
      rintro e a3 W3 hp
      cases e with
      | normal =>
        obtain ⟨hk3, hi3⟩ := hp
        obtain ⟨hr, hl3, hl4, hk4, hke⟩ := fin none W3 hk3
        exact ⟨_, _, hr, .inl ⟨rfl, ⟨hI _ _ _ hi3 (E.below_put hl3 (by omega)), hl4, hk4⟩, hke⟩⟩
      | ret =>
        obtain ⟨hk3, hi3⟩ := hp
        obtain ⟨hr, hl3, hl4, hk4, hke⟩ := fin (some .ret) W3 hk3
        exact ⟨_, _, hr, .inr ⟨rfl, ⟨hIx _ _ _ hi3 (E.below_put hl3 (by omega)), hl4, hk4⟩, hke⟩⟩
      | exit id => exact hp.elim
      | goto t => exact hp.elim
      | panic ch => exact hp.elim
      | outgrown => exact hp.elim
    · -- behind the iterator
      rintro e W2 ⟨⟨v, rfl⟩, (⟨hi, hl, hk⟩ | ⟨k, hk0, hi, hl, hk⟩), hsz⟩
      · exact ⟨none, _, by have := run_endLoop (P := P) hl (by rw [hrec]; simp); rw [hrec] at this; exact this, hdone _ (by simp; omega) (hI _ _ _ hi (E.below_put hl (by omega))) ((World.putObj_heap_other (by omega)).trans hk)⟩
      · exact ⟨some .ret, _, by have := run_endLoop (P := P) hl (by rw [hrec]; simp); rw [hrec] at this; exact this, hstop k _ (by simp; omega) hk0 (hIx _ _ _ hi (E.below_put hl (by omega))) ((World.putObj_heap_other (by omega)).trans hk)⟩

end Go.Proofs.Yteekdggainficaa.X
end

section
/- super.climb, whatever it calls; super.From. -/
namespace Go.Proofs.Yteekdggainficaa.X
open Go.RowKit Go.Shelf Go.Proofs.YteekdggainficaaW.PrintWords Go.Proofs.YteekdggainficaaW.PrintLast Go.Proofs.YteekdggainficaaW.PrintMore

/-- The places of round i. -/
def S.climbL (l : List Int) (m k : Int) (i : Nat) : List Int := S.upZ l (S.climbAt l m k i) ((l.length : Int) - k) (31 - (i : Int))
theorem S.climbAt_succ (l : List Int) (m k : Int) (i : Nat) : S.climbAt l m k (i + 1) = if m < ((S.climbL l m k i).length : Int) then rd (S.climbL l m k i) (((S.climbL l m k i).length : Int) - m) else S.climbAt l m k i := rfl

theorem E.R_keeps {e : Nat} {base B : Nat} {ok : Nat → Prop} {v : Value} {xs : List Int} {W W' : World} (h : Kd.R (Kd.int .i64) e W base ok v xs) (hb : B ≤ base) (hk : E.KeepsOn B W W') : Kd.R (Kd.int .i64) e W' base ok v xs :=
  Kd.R_mono (Kd.R_move (Kd.R_bound h) (fun k hk1 => hk.2 k (Nat.le_trans hb hk1.2.1) hk1.2.2.1)) (fun _ hk1 => hk1.1)
theorem E.cell_keeps {e : Nat} {base B c : Nat} {ok : Nat → Prop} {ad : Addr} {xs : List Int} {W W' : World} (h : Kd.R (Kd.int .i64) e W base ok (.slice (some ad) xs.length c) xs) (hb : B ≤ base) (hk : E.KeepsOn B W W') (i : Int) (h0 : 0 ≤ i) (h1 : i < xs.length) :
    W'.cell? (ad.add i.toNat) = some (.int .i64 (rd xs i)) := by
  obtain ⟨A, c', e, _, hC⟩ := Kd.R_reads (E.R_keeps h hb hk)
  injection e with e1 e2 e3
  subst e1
  obtain ⟨ad', e1, hx⟩ := Kd.at_int hC i h0 h1
  injection e1 with e1
  subst e1
  exact hx

set_option maxHeartbeats 1000000 in
theorem E.climb_calls (g : Nat) (lb : Array Value) (eg : ∀ args w, (callFunc g args).run Try.prog w = .ok (.enter g args) w)
    (A0 : Option Addr) (c0 : Nat) (l0 : List Int) (a1 a2 : Int) (w0 w : World) (B : Nat) (hr0 : Kd.C (Kd.int .i64) w0 A0 l0.length l0) (hc0 : l0.length ≤ c0) (hlen : l0.length ≤ 200) (h1 : 1 ≤ a1) (h2 : 1 ≤ a2) (h3 : a2 < (l0.length : Int)) (h1' : a1 ≤ 9223372036854775807)
    (J : Nat → World → Prop) (hJup : ∀ i W W', J i W → Below W.heap.size W W' → J i W') (hJw : ∀ i W, J i W → Below w0.heap.size w0 W ∧ B ≤ W.heap.size)
    (hcb : ∀ (i : Nat) (A : Option Addr) (c : Nat) (W : World), i < 32 → J i W → Kd.C (Kd.int .i64) W A (S.climbL l0 a1 a2 i).length (S.climbL l0 a1 a2 i) → (∀ ad, A = some ad → B ≤ ad.block) →
      Calls Try.prog g (#[.int .i64 (31 - (i : Int)), .int .i64 (S.climbAt l0 a1 a2 i), .slice A (S.climbL l0 a1 a2 i).length c] ++ lb) W fun e W' => e = .returned (.tuple #[]) ∧ J (i + 1) W' ∧ E.KeepsOn B W W')
    (h0 : J 0 w) :
    Calls Try.prog 38 #[.slice A0 l0.length c0, .int .i64 a1, .int .i64 a2, .func (.func g) #[] lb] w fun e w' => e = .returned (.tuple #[]) ∧ J 32 w' := by
  have HR0 := Aside0.mk hr0
  have HC0 := Aside0.mk hc0
  have HJU := Aside0.mk hJup
  have HJW := Aside0.mk hJw
  have HCB := Aside0.mk hcb
  have HJ0 := Aside0.mk h0
  clear hr0 hc0 hJup hJw hcb h0
  go_enter Try.func38, Try.ntmps38
  go_wp2
  go_loopg [8, 12] 32 (fun kq v8 v12 w' => ∃ (i : Nat), v12 = .int .i64 i ∧ v8 = .int .i64 (S.climbAt l0 a1 a2 i) ∧ i ≤ 32 ∧ 32 - i ≤ kq ∧ Aside0 (J i w'))
  case atStart => exact ⟨0, rfl, rfl, by omega, by omega, HJ0⟩
  case round =>
    obtain ⟨i, rfl, rfl, hi, hg, HJ⟩ := hrel
    clear HJ0
    by_cases hlt : i < 32
    · have hltz : (i : Int) < 32 := by omega
      have cb : decide ((i : Int) < 32) = true := by simpa using hltz
      go_wp2_with fail
      refine (super_Up.calls 300 A0 c0 l0 (S.climbAt l0 a1 a2 i) ((l0.length : Int) - a2) (31 - (i : Int)) (S.climbL l0 a1 a2 i) wr (Kd.C_below HR0.out (HJW.out _ _ HJ.out).1) HC0.out (E.up_f l0 _ _ _ (by omega) 300 (by omega))).mono ?_
      rintro e w1 ⟨v, rfl, hR, hB⟩
      have HJ1 := Aside0.mk (HJU.out i wr w1 HJ.out hB)
      have hBw := (HJW.out _ _ HJ.out).2
      obtain ⟨A1, c1, rfl, hle, hC⟩ := Kd.R_reads hR
      have hA1 : ∀ ad, A1 = some ad → B ≤ ad.block := fun ad e => by subst e; exact Nat.le_trans hBw (Kd.R_base hR _ rfl)
      have HCC := Aside0.mk (HCB.out i A1 c1 w1 hlt HJ1.out hC hA1)
      have hmx := Kd.C_max hC
      have hS := S.climbAt_succ l0 a1 a2 i
      have HS := Aside0.mk hS
      have HC := Aside0.mk hC
      have HR := Aside0.mk hR
      clear hS hC hA1 hR hB
      generalize hL : S.climbL l0 a1 a2 i = L at *
      have HL := Aside0.mk hL
      clear hL
      by_cases hm : a1 < (L.length : Int)
      · have cm : decide (a1 < (L.length : Int)) = true := by simpa using hm
        obtain ⟨ad, e1, _⟩ := Kd.at_int HC.out 0 (by omega) (by omega)
        cases e1
        have i0 : 0 ≤ (L.length : Int) - a1 := by omega
        have i1 : (L.length : Int) - a1 < (L.length : Int) := by omega
        go_wp2_with (go_at_fn g; refine HCC.out.mono ?_; rintro e w2 ⟨rfl, hJ2, hK⟩; have hx := E.cell_keeps HR.out hBw hK _ i0 i1; have HJ2 := Aside0.mk hJ2; clear hJ2 hK)
        go_roundg (31 - i)
        case measure => omega
        case rel => exact ⟨i + 1, by go_num, by rw [HS.out, if_pos hm], by omega, by omega, HJ2⟩
      · have cm : decide (a1 < (L.length : Int)) = false := by simpa using hm
        go_wp2_with (go_at_fn g; refine HCC.out.mono ?_; rintro e w2 ⟨rfl, hJ2, hK⟩; have HJ2 := Aside0.mk hJ2; clear hJ2 hK)
        go_roundg (31 - i)
        case measure => omega
        case rel => exact ⟨i + 1, by go_num, by rw [HS.out, if_neg (by omega)], by omega, by omega, HJ2⟩
    · obtain rfl : i = 32 := by omega
      go_wp2
      go_end0
      exact ⟨rfl, HJ.out⟩

end Go.Proofs.Yteekdggainficaa.X
end

section
/- Plain facts on places: no program in sight. -/
namespace Go.Proofs.Yteekdggainficaa.X
open Go.Proofs.YteekdggainficaaW.PrintWords

theorem rd_get {l : List Int} {i : Nat} (h : i < l.length) : rd l i = l[i] := by
  simp [rd, List.getElem?_eq_getElem h, List.getD_eq_getElem?_getD]
theorem rd_cons_zero (x : Int) (l : List Int) : rd (x :: l) 0 = x := rfl
theorem rd_cons_succ (x : Int) (l : List Int) (i : Nat) : rd (x :: l) ((i : Int) + 1) = rd l i := by
  have : ((i : Int) + 1).toNat = i + 1 := by omega
  simp [rd, this]

/-- Rising. -/
abbrev S.Up (a : List Int) : Prop := a.Pairwise (· < ·)

theorem S.upFrom_mem (l : List Int) : ∀ (i fr hi n x : Int), x ∈ S.upFrom l i fr hi n ↔ ∃ j : Nat, x = i + j ∧ j < l.length ∧ fr ≤ x ∧ x < hi ∧ n ≤ rd l j := by
  induction l with
  | nil => intro i fr hi n x; simp [S.upFrom]
  | cons y l ih =>
    intro i fr hi n x
    have hr : x ∈ S.upFrom l (i + 1) fr hi n ↔ ∃ j : Nat, x = i + (j + 1 : Nat) ∧ j + 1 < (y :: l).length ∧ fr ≤ x ∧ x < hi ∧ n ≤ rd (y :: l) ((j + 1 : Nat) : Int) := by
      rw [ih]
      refine exists_congr fun j => ?_
      have e : rd (y :: l) ((j + 1 : Nat) : Int) = rd l j := by rw [← rd_cons_succ y l j]; rfl
      rw [e, List.length_cons]
      constructor
      · rintro ⟨h1, h2, h3⟩; exact ⟨by omega, by omega, h3⟩
      · rintro ⟨h1, h2, h3⟩; exact ⟨by omega, by omega, h3⟩
    have hsplit : (∃ j : Nat, x = i + j ∧ j < (y :: l).length ∧ fr ≤ x ∧ x < hi ∧ n ≤ rd (y :: l) j) ↔ (x = i ∧ fr ≤ x ∧ x < hi ∧ n ≤ y) ∨ ∃ j : Nat, x = i + (j + 1 : Nat) ∧ j + 1 < (y :: l).length ∧ fr ≤ x ∧ x < hi ∧ n ≤ rd (y :: l) ((j + 1 : Nat) : Int) := by
      constructor
      · rintro ⟨j, h1, h2, h3, h4, h5⟩
        cases j with
        | zero => exact .inl ⟨by omega, h3, h4, h5⟩
        | succ j => exact .inr ⟨j, h1, h2, h3, h4, h5⟩
      · rintro (⟨h1, h3, h4, h5⟩ | ⟨j, h⟩)
        · exact ⟨0, by omega, by simp, h3, h4, h5⟩
        · exact ⟨j + 1, h⟩
    rw [hsplit]
    unfold S.upFrom
    by_cases hc : fr ≤ i ∧ i < hi ∧ n ≤ y
    · rw [if_pos hc, List.mem_cons, hr]
      constructor
      · rintro (rfl | h)
        · exact .inl ⟨rfl, hc⟩
        · exact .inr h
      · rintro (⟨h, _⟩ | h)
        · exact .inl h
        · exact .inr h
    · rw [if_neg hc, hr]
      constructor
      · exact .inr
      · rintro (⟨rfl, h⟩ | h)
        · exact absurd h hc
        · exact h

theorem S.upFrom_up (l : List Int) : ∀ (i fr hi n : Int), S.Up (S.upFrom l i fr hi n) := by
  induction l with
  | nil => intro i fr hi n; exact List.Pairwise.nil
  | cons y l ih =>
    intro i fr hi n
    unfold S.upFrom
    split
    · refine List.Pairwise.cons (fun x hx => ?_) (ih _ _ _ _)
      obtain ⟨j, h, _⟩ := (S.upFrom_mem l _ _ _ _ _).1 hx
      omega
    · exact ih _ _ _ _

theorem S.upZ_mem {l : List Int} {fr hi n x : Int} : x ∈ S.upZ l fr hi n ↔ 0 ≤ x ∧ x < l.length ∧ fr ≤ x ∧ x < hi ∧ n ≤ rd l x := by
  unfold S.upZ
  rw [S.upFrom_mem]
  constructor
  · rintro ⟨j, rfl, h2, h3, h4, h5⟩
    have e : (0 : Int) + j = j := by omega
    rw [e] at h3 h4 ⊢
    exact ⟨by omega, by omega, h3, h4, h5⟩
  · rintro ⟨h0, h1, h3, h4, h5⟩
    refine ⟨x.toNat, by omega, by omega, h3, h4, ?_⟩
    rw [show ((x.toNat : Nat) : Int) = x from by omega]
    exact h5
theorem S.upZ_up (l : List Int) (fr hi n : Int) : S.Up (S.upZ l fr hi n) := S.upFrom_up l 0 fr hi n

theorem S.up_ext : ∀ {a b : List Int}, S.Up a → S.Up b → (∀ x, x ∈ a ↔ x ∈ b) → a = b
  | [], [], _, _, _ => rfl
  | [], y :: b, _, _, h => by have := (h y).2 (by simp); simp at this
  | x :: a, [], _, _, h => by have := (h x).1 (by simp); simp at this
  | x :: a, y :: b, ha, hb, h => by
    obtain ⟨ha1, ha2⟩ := List.pairwise_cons.1 ha
    obtain ⟨hb1, hb2⟩ := List.pairwise_cons.1 hb
    have hxy : x = y := by
      rcases List.mem_cons.1 ((h x).1 (by simp)) with e | e
      · exact e
      · rcases List.mem_cons.1 ((h y).2 (by simp)) with e' | e'
        · exact e'.symm
        · have := ha1 _ e'; have := hb1 _ e; omega
    subst hxy
    rw [S.up_ext ha2 hb2 (fun z => ?_)]
    have := h z
    rw [List.mem_cons, List.mem_cons] at this
    constructor
    · intro hz
      rcases this.1 (.inr hz) with e | e
      · have := ha1 _ hz; omega
      · exact e
    · intro hz
      rcases this.2 (.inr hz) with e | e
      · have := hb1 _ hz; omega
      · exact e

theorem S.up_filter {a : List Int} (h : S.Up a) (p : Int → Bool) : S.Up (a.filter p) := List.Pairwise.filter p h

theorem S.upZ_filter (l : List Int) {fr fr' : Int} (h : fr ≤ fr') (hi n : Int) : S.upZ l fr' hi n = (S.upZ l fr hi n).filter fun x => decide (fr' ≤ x) := by
  refine S.up_ext (S.upZ_up _ _ _ _) (S.up_filter (S.upZ_up _ _ _ _) _) fun x => ?_
  rw [List.mem_filter, S.upZ_mem, S.upZ_mem, decide_eq_true_eq]
  constructor
  · rintro ⟨h0, h1, h2, h3⟩; exact ⟨⟨h0, h1, by omega, h3⟩, h2⟩
  · rintro ⟨⟨h0, h1, h2, h3⟩, h4⟩; exact ⟨h0, h1, h4, h3⟩
theorem S.upZ_level (l : List Int) (fr hi : Int) {n n' : Int} (h : n ≤ n') : S.upZ l fr hi n' = (S.upZ l fr hi n).filter fun x => decide (n' ≤ rd l x) := by
  refine S.up_ext (S.upZ_up _ _ _ _) (S.up_filter (S.upZ_up _ _ _ _) _) fun x => ?_
  rw [List.mem_filter, S.upZ_mem, S.upZ_mem, decide_eq_true_eq]
  constructor
  · rintro ⟨h0, h1, h2, h3, h4⟩; exact ⟨⟨h0, h1, h2, h3, by omega⟩, h4⟩
  · rintro ⟨⟨h0, h1, h2, h3, h4⟩, h5⟩; exact ⟨h0, h1, h2, h3, h5⟩

/-- Of a rising list what is not below x is its end. -/
theorem S.up_suffix : ∀ {a : List Int} (_ : S.Up a) (x : Int), (a.filter fun y => decide (x ≤ y)) <:+ a
  | [], _, _ => List.suffix_refl _
  | y :: a, h, x => by
    obtain ⟨h1, h2⟩ := List.pairwise_cons.1 h
    by_cases hy : x ≤ y
    · rw [List.filter_eq_self.2 (fun z hz => ?_)]
      · exact List.suffix_refl _
      · rcases List.mem_cons.1 hz with rfl | hz
        · simpa using hy
        · have := h1 z hz; simp; omega
    · rw [List.filter_cons_of_neg (by simpa using hy)]
      exact (S.up_suffix h2 x).trans (List.suffix_cons y a)

theorem rd_append_right (s t : List Int) (i : Nat) : rd (s ++ t) ((s.length + i : Nat) : Int) = rd t i := by
  simp only [rd, Int.toNat_natCast, List.getD_eq_getElem?_getD]
  rw [List.getElem?_append_right (by omega), Nat.add_sub_cancel_left]

theorem S.suffix_rd {L U : List Int} (h : L <:+ U) {m : Int} (_h1 : 0 ≤ m) (hm : m ≤ L.length) : rd L ((L.length : Int) - m) = rd U ((U.length : Int) - m) := by
  obtain ⟨s, rfl⟩ := h
  obtain ⟨j, hj⟩ : ∃ j : Nat, (L.length : Int) - m = j := ⟨((L.length : Int) - m).toNat, by omega⟩
  rw [hj, show ((s ++ L).length : Int) - m = ((s.length + j : Nat) : Int) from by rw [List.length_append]; omega, rd_append_right]

theorem S.suffix_mthLast {L U : List Int} (h : L <:+ U) {m : Int} (_h1 : 0 ≤ m) (hm : m ≤ L.length) : S.mthLast U m = rd L ((L.length : Int) - m) := by
  have hl := h.length_le
  rw [S.suffix_rd h _h1 hm, S.mthLast, if_pos (by omega)]

theorem S.rd_mem {a : List Int} {i : Int} (h0 : 0 ≤ i) (h1 : i < a.length) : rd a i ∈ a := by
  obtain ⟨j, rfl⟩ : ∃ j : Nat, i = j := ⟨i.toNat, by omega⟩
  rw [rd_get (by omega)]
  exact List.getElem_mem _

theorem S.mthLast_mem {a : List Int} {m : Int} (h1 : 1 ≤ m) (hm : m ≤ a.length) : S.mthLast a m ∈ a := by
  unfold S.mthLast
  rw [if_pos hm]
  exact S.rd_mem (by omega) (by omega)

/-- The first of a rising list is its least one. -/
theorem S.up_head {a : List Int} (h : S.Up a) {x : Int} (hx : x ∈ a) : rd a 0 ≤ x := by
  cases a with
  | nil => simp at hx
  | cons y a =>
    rcases List.mem_cons.1 hx with rfl | hx
    · exact Int.le_refl _
    · exact Int.le_of_lt ((List.pairwise_cons.1 h).1 _ hx)
theorem S.up_rd {a : List Int} (h : S.Up a) {i j : Nat} (hij : i < j) (hj : j < a.length) : rd a i < rd a j := by
  rw [rd_get hj, rd_get (Nat.lt_trans hij hj)]
  exact List.pairwise_iff_getElem.1 h i j (Nat.lt_trans hij hj) hj hij

/-- Just m of a rising list are not below its m-th last one. -/
theorem S.mthLast_count {a : List Int} (h : S.Up a) {m : Int} (h1 : 1 ≤ m) (hm : m ≤ a.length) : ((a.filter fun y => decide (S.mthLast a m ≤ y)).length : Int) = m := by
  obtain ⟨s, hs⟩ := S.up_suffix h (S.mthLast a m)
  generalize hL : (a.filter fun y => decide (S.mthLast a m ≤ y)) = L at hs
  have hx : S.mthLast a m ∈ L := by rw [← hL, List.mem_filter]; exact ⟨S.mthLast_mem h1 hm, by simp⟩
  have hupL : S.Up L := by rw [← hL]; exact S.up_filter h _
  have hlen : a.length = s.length + L.length := by rw [← hs, List.length_append]
  have hpos : 0 < L.length := List.length_pos_iff.2 (fun e => by rw [e] at hx; simp at hx)
  have hhead : rd L 0 = S.mthLast a m := by
    refine Int.le_antisymm (S.up_head hupL hx) ?_
    have := S.rd_mem (a := L) (i := 0) (by omega) (by omega)
    rw [← hL, List.mem_filter, decide_eq_true_eq] at this
    rw [← hL]
    exact this.2
  have e1 : rd a ((s.length + 0 : Nat) : Int) = rd L 0 := by rw [← hs]; exact rd_append_right s L 0
  have e2 : S.mthLast a m = rd a ((a.length : Int) - m) := by unfold S.mthLast; rw [if_pos hm]
  rw [hhead, e2] at e1
  obtain ⟨j, hj⟩ : ∃ j : Nat, (a.length : Int) - m = j := ⟨((a.length : Int) - m).toNat, by omega⟩
  rw [hj] at e1
  have : j = s.length := by
    rcases Nat.lt_trichotomy j s.length with hlt | he | hlt
    · have := S.up_rd h hlt (by omega); rw [Nat.add_zero] at e1; omega
    · exact he
    · have := S.up_rd h hlt (by omega); rw [Nat.add_zero] at e1; omega
  omega

theorem S.filter_sub {U : List Int} (p q : Int → Bool) : ((U.filter q).filter p).Sublist (U.filter p) := by
  rw [List.filter_filter]
  have : (U.filter fun x => p x && q x) = (U.filter p).filter q := by rw [List.filter_filter]; congr 1; funext x; exact Bool.and_comm _ _
  rw [this]
  exact List.filter_sublist

/-- Of fewer places the m-th last one is no later. -/
theorem S.mthLast_mono {U : List Int} (h : S.Up U) (h0 : ∀ x ∈ U, 0 ≤ x) (q : Int → Bool) {m : Int} (h1 : 1 ≤ m) : S.mthLast (U.filter q) m ≤ S.mthLast U m := by
  by_cases hv : m ≤ ((U.filter q).length : Int)
  · have hlen : (U.filter q).length ≤ U.length := List.length_filter_le _ _
    have hcnt := S.mthLast_count (S.up_filter h q) h1 hv
    generalize hf : S.mthLast (U.filter q) m = f at *
    have hsub := (S.filter_sub (U := U) (fun y => decide (f ≤ y)) q).length_le
    have hm' : m ≤ ((U.filter fun y => decide (f ≤ y)).length : Int) := by omega
    rw [S.suffix_mthLast (S.up_suffix h f) (by omega) hm']
    have := S.rd_mem (a := U.filter fun y => decide (f ≤ y)) (i := ((U.filter fun y => decide (f ≤ y)).length : Int) - m) (by omega) (by omega)
    rw [List.mem_filter, decide_eq_true_eq] at this
    exact this.2
  · have e : S.mthLast (U.filter q) m = 0 := by unfold S.mthLast; rw [if_neg hv]
    rw [e]
    by_cases hu : m ≤ (U.length : Int)
    · exact h0 _ (S.mthLast_mem h1 hu)
    · unfold S.mthLast; rw [if_neg hu]; omega

/-- climb: its places are the document's. -/
theorem S.climbAt_is (l : List Int) (m k : Int) (hm : 1 ≤ m) (hk : k < l.length) (h31 : rd l 0 = 31) (hlv : ∀ x : Int, 0 ≤ x → x < l.length → rd l x ≤ 31) (hk1 : 1 ≤ k) : ∀ i : Nat, i ≤ 32 →
    S.climbAt l m k i = S.mthLast (S.upZ l 0 ((l.length : Int) - k) (32 - (i : Int))) m := by
  intro i
  induction i with
  | zero =>
    intro _
    have e : S.upZ l 0 ((l.length : Int) - k) (32 - ((0 : Nat) : Int)) = [] := by
      refine List.eq_nil_iff_forall_not_mem.2 fun x hx => ?_
      obtain ⟨h0, h1, _, _, h2⟩ := S.upZ_mem.1 hx
      have := hlv x h0 h1
      omega
    rw [e]
    unfold S.mthLast
    rw [if_neg (by simp; omega)]
    rfl
  | succ i ih =>
    intro hi
    have ih := ih (by omega)
    generalize hU : S.upZ l 0 ((l.length : Int) - k) (31 - (i : Int)) = U
    have hUup : S.Up U := by rw [← hU]; exact S.upZ_up _ _ _ _
    have hU0 : ∀ x ∈ U, 0 ≤ x := fun x hx => by rw [← hU] at hx; exact (S.upZ_mem.1 hx).1
    have hV : S.upZ l 0 ((l.length : Int) - k) (32 - (i : Int)) = U.filter fun x => decide (32 - (i : Int) ≤ rd l x) := by rw [← hU]; exact S.upZ_level _ _ _ (by omega)
    rw [hV] at ih
    generalize hf : S.climbAt l m k i = f at ih
    have hf0 : 0 ≤ f := by
      rw [ih]
      by_cases hv : m ≤ ((U.filter fun x => decide (32 - (i : Int) ≤ rd l x)).length : Int)
      · exact hU0 _ ((List.mem_filter.1 (S.mthLast_mem hm hv)).1)
      · unfold S.mthLast; rw [if_neg hv]; omega
    have hL : S.upZ l f ((l.length : Int) - k) (31 - (i : Int)) = U.filter fun x => decide (f ≤ x) := by rw [← hU]; exact S.upZ_filter l hf0 _ _
    have hs := S.up_suffix hUup f
    have e0 : S.climbAt l m k (i + 1) = if m < ((U.filter fun x => decide (f ≤ x)).length : Int) then rd (U.filter fun x => decide (f ≤ x)) (((U.filter fun x => decide (f ≤ x)).length : Int) - m) else f := by
      rw [← hL, ← hf]; rfl
    rw [e0, show (32 : Int) - ((i + 1 : Nat) : Int) = 31 - (i : Int) from by omega, hU]
    generalize hLL : (U.filter fun x => decide (f ≤ x)) = L at *
    have hupL : S.Up L := by rw [← hLL]; exact S.up_filter hUup _
    by_cases hc : m < (L.length : Int)
    · rw [if_pos hc, S.suffix_mthLast hs (by omega) (by omega)]
    · rw [if_neg hc]
      have hfU : 1 ≤ L.length → f ∈ L → f = rd L 0 := fun hp hm' => by
        refine Int.le_antisymm ?_ (S.up_head hupL hm')
        have := S.rd_mem (a := L) (i := 0) (by omega) (by omega)
        rw [← hLL, List.mem_filter, decide_eq_true_eq] at this
        rw [← hLL]
        exact this.2
      by_cases hv : m ≤ ((U.filter fun x => decide (32 - (i : Int) ≤ rd l x)).length : Int)
      · have hcnt := S.mthLast_count (S.up_filter hUup _) hm hv
        rw [← ih] at hcnt
        have hsub := (S.filter_sub (U := U) (fun y => decide (f ≤ y)) (fun x => decide (32 - (i : Int) ≤ rd l x))).length_le
        rw [hLL] at hsub
        have hlm : (L.length : Int) = m := by omega
        have hfL : f ∈ L := by
          rw [← hLL, List.mem_filter]
          have := S.mthLast_mem hm hv
          rw [← ih] at this
          exact ⟨(List.mem_filter.1 this).1, by simp⟩
        rw [S.suffix_mthLast hs (by omega) (by omega), hlm, show m - m = 0 from by omega]
        exact hfU (by omega) hfL
      · have hf0' : f = 0 := by rw [ih]; unfold S.mthLast; rw [if_neg hv]
        have hLU : L = U := by rw [← hLL]; exact List.filter_eq_self.2 fun x hx => by have := hU0 x hx; simp; omega
        have h0U : (0 : Int) ∈ U := by rw [← hU, S.upZ_mem]; exact ⟨by omega, by omega, by omega, by omega, by rw [h31]; omega⟩
        by_cases hum : m ≤ (L.length : Int)
        · rw [S.suffix_mthLast hs (by omega) (by omega), show (L.length : Int) - m = 0 from by omega]
          exact hfU (by omega) (by rw [hLU, hf0']; exact h0U)
        · rw [hLU] at hum
          unfold S.mthLast; rw [if_neg hum]; exact hf0'

end Go.Proofs.Yteekdggainficaa.X
end

section
-- By this session's own program (wip/tools/xprint.py), over the kit's print. Not trusted: Lean checks it.
namespace Go.Proofs.Yteekdggainficaa.X
open Go.RowKit Go.Proofs.YteekdggainficaaW.PrintWords Go.Proofs.YteekdggainficaaW.PrintLast Go.Proofs.YteekdggainficaaW.PrintMore
attribute [local go_sem] max2_int min2_int max_two min_two max_three min_three max_four min_four   -- for this text's walks alone
set_option linter.unusedVariables false
set_option linter.unusedSimpArgs false

/-! ### super_May: function 24 -/
-- EXT YteekdggainficaaE1
def super_May.f (l0 : List Int) : Option (Bool) := some (S.mayB l0)
theorem super_May.calls (A0 : Option Addr) (c0 : Nat) (l0 : List Int) (r : Bool) (w : World) (hr0 : Kd.C (Kd.int .i64) w A0 l0.length l0) (hc0 : l0.length ≤ c0) (h : super_May.f l0 = some r) :
    Calls Try.prog 24 #[.slice A0 l0.length c0] w fun e w' => e = .returned (.bool r) ∧ Drawn0 w w' := by
  obtain rfl := Option.some.inj h; exact E.may_calls A0 c0 l0 w hr0 hc0


end Go.Proofs.Yteekdggainficaa.X
end

section
-- By this session's own program (wip/tools/xprint.py), over the kit's print. Not trusted: Lean checks it.
namespace Go.Proofs.Yteekdggainficaa.X
open Go.RowKit Go.Proofs.YteekdggainficaaW.PrintWords Go.Proofs.YteekdggainficaaW.PrintLast Go.Proofs.YteekdggainficaaW.PrintMore
attribute [local go_sem] max2_int min2_int max_two min_two max_three min_three max_four min_four   -- for this text's walks alone
set_option linter.unusedVariables false
set_option linter.unusedSimpArgs false

/-! ### super_may: function 37 -/
def super_may.f (l0 : List Int) (a1 : Int) (a2 : Int) : Option (Bool) := (super_May.f l0).bind fun t371 => (if t371 = true then (if a1 ≥ 1 then (if a2 ≥ 1 then (some (decide ((l0.length : Int) > a2))) else (some false)) else (some false)) else (some false))
set_option maxHeartbeats 8000000 in
set_option maxRecDepth 100000 in
theorem super_may.calls (A0 : Option Addr) (c0 : Nat) (l0 : List Int) (a1 : Int) (a2 : Int) (r : Bool) (w : World) (hr0 : Kd.C (Kd.int .i64) w A0 l0.length l0) (hc0 : l0.length ≤ c0) (h : super_may.f l0 a1 a2 = some r) :
    Calls Try.prog 37 #[.slice A0 l0.length c0, .int .i64 a1, .int .i64 a2] w fun e w' => e = .returned (.bool r) ∧ Drawn0 w w' := by
  have HR0 := Aside0.mk hr0
  have HC0 := Aside0.mk hc0
  clear hr0 hc0
  have H : ((super_May.f l0).bind fun t371 => (if t371 = true then (if a1 ≥ 1 then (if a2 ≥ 1 then (some (decide ((l0.length : Int) > a2))) else (some false)) else (some false)) else (some false))) = some r := h
  clear h
  replace H := Option.bind_eq_some_iff.mp H
  obtain ⟨t371, A40, H⟩ := H
  replace H : (if t371 = true then (if a1 ≥ 1 then (if a2 ≥ 1 then (some (decide ((l0.length : Int) > a2))) else (some false)) else (some false)) else (some false)) = some r := H
  have A4 := Aside0.mk A40
  clear A40
  by_cases c5 : t371 = true
  · subst c5
    have H1 : (if a1 ≥ 1 then (if a2 ≥ 1 then (some (decide ((l0.length : Int) > a2))) else (some false)) else (some false)) = some r := by rw [if_pos rfl] at H; exact H
    clear H
    have H := H1
    clear H1
    by_cases c6 : a1 ≥ 1
    · rw [if_pos c6] at H
      have c6b0 : decide (1 ≤ a1) = true := decide_eq_true c6
      clear c6
      by_cases c7 : a2 ≥ 1
      · rw [if_pos c7] at H
        have c7b0 : decide (1 ≤ a2) = true := decide_eq_true c7
        clear c7
        obtain rfl := Option.some.inj H
        go_enter Try.func37, Try.ntmps37
        go_wp2_with (first | ((with_reducible refine gate_callee (f := 24) rfl ?_); refine goesL_ (some 8) rfl rfl Try.func24 (by kernel_rfl) rfl #[.slice A0 l0.length c0] rfl (by (try simp only [List.map_toArray, List.map_cons, List.map_nil]); first | done | rfl | (simp only [List.length_drop, List.length_take]; rfl)) ?_; (with_reducible refine (super_May.calls _ _ l0 true _ ?side1 ?side2 A4.out).mono ?_); (case side1 => repeat (first | exact HR0.out | (with_reducible refine Kd.C_alloc ?_ _) | (with_reducible refine Kd.C_drewN ?_ _) | (with_reducible refine Kd.C_drew ?_))); (case side2 => exact HC0.out); rintro e w' ⟨rfl, ⟨nd, rfl⟩⟩; refine ⟨_, rfl, ?_⟩))
        go_ret
        exact ⟨by first | rfl | (simp; done) | (simp [*]; done), by repeat (first | exact Drawn0.refl _ | apply Drawn0.step)⟩
      · rw [if_neg c7] at H
        have c7b0 : decide (1 ≤ a2) = false := decide_eq_false c7
        clear c7
        obtain rfl := Option.some.inj H
        go_enter Try.func37, Try.ntmps37
        go_wp2_with (first | ((with_reducible refine gate_callee (f := 24) rfl ?_); refine goesL_ (some 8) rfl rfl Try.func24 (by kernel_rfl) rfl #[.slice A0 l0.length c0] rfl (by (try simp only [List.map_toArray, List.map_cons, List.map_nil]); first | done | rfl | (simp only [List.length_drop, List.length_take]; rfl)) ?_; (with_reducible refine (super_May.calls _ _ l0 true _ ?side1 ?side2 A4.out).mono ?_); (case side1 => repeat (first | exact HR0.out | (with_reducible refine Kd.C_alloc ?_ _) | (with_reducible refine Kd.C_drewN ?_ _) | (with_reducible refine Kd.C_drew ?_))); (case side2 => exact HC0.out); rintro e w' ⟨rfl, ⟨nd, rfl⟩⟩; refine ⟨_, rfl, ?_⟩))
        go_ret
        exact ⟨by first | rfl | (simp; done) | (simp [*]; done), by repeat (first | exact Drawn0.refl _ | apply Drawn0.step)⟩
    · rw [if_neg c6] at H
      have c6b0 : decide (1 ≤ a1) = false := decide_eq_false c6
      clear c6
      obtain rfl := Option.some.inj H
      go_enter Try.func37, Try.ntmps37
      go_wp2_with (first | ((with_reducible refine gate_callee (f := 24) rfl ?_); refine goesL_ (some 8) rfl rfl Try.func24 (by kernel_rfl) rfl #[.slice A0 l0.length c0] rfl (by (try simp only [List.map_toArray, List.map_cons, List.map_nil]); first | done | rfl | (simp only [List.length_drop, List.length_take]; rfl)) ?_; (with_reducible refine (super_May.calls _ _ l0 true _ ?side1 ?side2 A4.out).mono ?_); (case side1 => repeat (first | exact HR0.out | (with_reducible refine Kd.C_alloc ?_ _) | (with_reducible refine Kd.C_drewN ?_ _) | (with_reducible refine Kd.C_drew ?_))); (case side2 => exact HC0.out); rintro e w' ⟨rfl, ⟨nd, rfl⟩⟩; refine ⟨_, rfl, ?_⟩))
      go_ret
      exact ⟨by first | rfl | (simp; done) | (simp [*]; done), by repeat (first | exact Drawn0.refl _ | apply Drawn0.step)⟩
  · replace c5 := Bool.eq_false_iff.mpr c5
    subst c5
    have H1 : (some false) = some r := by rw [if_neg (show ¬ (false = true) by decide)] at H; exact H
    clear H
    have H := H1
    clear H1
    obtain rfl := Option.some.inj H
    go_enter Try.func37, Try.ntmps37
    go_wp2_with (first | ((with_reducible refine gate_callee (f := 24) rfl ?_); refine goesL_ (some 8) rfl rfl Try.func24 (by kernel_rfl) rfl #[.slice A0 l0.length c0] rfl (by (try simp only [List.map_toArray, List.map_cons, List.map_nil]); first | done | rfl | (simp only [List.length_drop, List.length_take]; rfl)) ?_; (with_reducible refine (super_May.calls _ _ l0 false _ ?side1 ?side2 A4.out).mono ?_); (case side1 => repeat (first | exact HR0.out | (with_reducible refine Kd.C_alloc ?_ _) | (with_reducible refine Kd.C_drewN ?_ _) | (with_reducible refine Kd.C_drew ?_))); (case side2 => exact HC0.out); rintro e w' ⟨rfl, ⟨nd, rfl⟩⟩; refine ⟨_, rfl, ?_⟩))
    go_ret
    exact ⟨by first | rfl | (simp; done) | (simp [*]; done), by repeat (first | exact Drawn0.refl _ | apply Drawn0.step)⟩

end Go.Proofs.Yteekdggainficaa.X
end

section
/- super.may and super.From. -/
namespace Go.Proofs.Yteekdggainficaa.X
open Go.RowKit Go.Shelf Go.Proofs.YteekdggainficaaW.PrintWords Go.Proofs.YteekdggainficaaW.PrintLast Go.Proofs.YteekdggainficaaW.PrintMore

theorem E.may_f (l : List Int) (m k : Int) : super_may.f l m k = some (S.okB l m k) := by
  unfold super_may.f super_May.f S.okB
  simp only [Option.bind_some]
  cases S.mayB l
  · simp
  · by_cases h1 : 1 ≤ m
    · by_cases h2 : 1 ≤ k
      · simp [h1, h2]
      · simp [h1, h2]
    · simp [h1]

theorem S.okB_parts {l : List Int} {m k : Int} (h : S.okB l m k = true) : S.mayB l = true ∧ 1 ≤ m ∧ 1 ≤ k ∧ k < (l.length : Int) := by
  unfold S.okB at h
  simpa using h
theorem S.mayB_parts {l : List Int} (h : S.mayB l = true) : 0 < l.length ∧ l.length ≤ 200 ∧ rd l 0 = 31 ∧ ∀ x : Int, 0 ≤ x → x < l.length → 0 ≤ rd l x ∧ rd l x ≤ 31 := by
  unfold S.mayB at h
  simp only [Bool.and_eq_true, decide_eq_true_eq, Bool.not_eq_true', List.any_eq_false] at h
  obtain ⟨h1, h2, h3, h4⟩ := h
  refine ⟨h1, h2, h3, fun x hx0 hx1 => ?_⟩
  have := h4 _ (S.rd_mem hx0 hx1)
  unfold S.oddB at this
  simp at this
  omega
theorem S.climb_from {l : List Int} {m k : Int} (h : S.okB l m k = true) (n : Nat) (hn : n ≤ 31) : S.climbAt l m k (31 - n) = S.mthLast (S.upZ l 0 ((l.length : Int) - k) ((n : Int) + 1)) m := by
  obtain ⟨h0, h1, h2, h3⟩ := S.okB_parts h
  obtain ⟨_, _, h6, h7⟩ := S.mayB_parts h0
  rw [S.climbAt_is l m k h1 h3 h6 (fun x a b => (h7 x a b).2) h2 (31 - n) (by omega)]
  congr 2
  omega

theorem E.boxKept {W W' : World} {B : Nat} {t : TypeId} {v : Value} (h : Boxed W B t v) (hb : Below W.heap.size W W') : Boxed W' B t v := (hb.block B h.lt).trans h

end Go.Proofs.Yteekdggainficaa.X
end

section
/- The kit's contracts of Go's library, laid at this seat's functions in plain words by the kit's lay-plain.mjs. -/
namespace Go.Proofs
open Go.Shelf
def Try.keysA_ren : Go.Shelf.Ren := ⟨fun | 7 => 41 | 10 => 48 | n => n, fun | 23 => 48 | 26 => 3 | 3 => 50 | 28 => 54 | 0 => 0 | 27 => 53 | 33 => 46 | 4 => 4 | n => n, fun | n => n⟩
theorem Try.keysA : Go.Proofs.SlLaysZI.n7 Try.prog Try.keysA_ren := {
  mixed := by kernel_rfl
  f7 := ⟨Try.f41.name, by decide, Try.func41.trans (congrArg some (by kernel_rfl))⟩
  f10 := ⟨Try.f48.name, by decide, Try.func48.trans (congrArg some (by kernel_rfl))⟩
  t0 := Try.underlying0
  a0 := Try.isAgg0
  z0 := Try.sizeOf0
  v0 := Try.zeroValue0
  t4 := Try.underlying4
  a4 := Try.isAgg4
  z4 := Try.sizeOf4
  v4 := Try.zeroValue4
  t23 := Try.underlying48
  a23 := Try.isAgg48
  z23 := Try.sizeOf48
  v23 := Try.zeroValue48
  t26 := Try.underlying3
  a26 := Try.isAgg3
  z26 := Try.sizeOf3
  v26 := Try.zeroValue3
  t27 := Try.underlying53
  a27 := Try.isAgg53
  z27 := Try.sizeOf53
  v27 := Try.zeroValue53
  t28 := Try.underlying54
  a28 := Try.isAgg54
  z28 := Try.sizeOf54
  v28 := Try.zeroValue54
  t33 := Try.underlying46
  a33 := Try.isAgg46
  z33 := Try.sizeOf46
  v33 := Try.zeroValue46 }
def Try.sortedA_ren : Go.Shelf.Ren := ⟨fun | 6 => 40 | 8 => 46 | 9 => 47 | 11 => 50 | 13 => 52 | 12 => 51 | 23 => 62 | 24 => 63 | 14 => 53 | 15 => 54 | 16 => 55 | 17 => 56 | 18 => 57 | 19 => 58 | 20 => 59 | 21 => 60 | 22 => 61 | 25 => 64 | 26 => 65 | 27 => 66 | 28 => 67 | 29 => 68 | 30 => 69 | 31 => 70 | n => n, fun | 26 => 3 | 28 => 54 | 24 => 26 | 0 => 0 | 3 => 3 | 37 => 65 | 48 => 74 | 50 => 76 | 4 => 4 | 40 => 68 | 39 => 67 | 45 => 71 | 5 => 5 | 9 => 9 | 51 => 77 | 55 => 81 | 57 => 83 | 58 => 84 | 33 => 46 | n => n, fun | n => n⟩
theorem Try.sortedA : Go.Proofs.SlLaysZI.n6 Try.prog Try.sortedA_ren := {
  mixed := by kernel_rfl
  f6 := ⟨Try.f40.name, by decide, Try.func40.trans (congrArg some (by kernel_rfl))⟩
  f8 := ⟨Try.f46.name, by decide, Try.func46.trans (congrArg some (by kernel_rfl))⟩
  f11 := ⟨Try.f50.name, by decide, Try.func50.trans (congrArg some (by kernel_rfl))⟩
  t0 := Try.underlying0
  a0 := Try.isAgg0
  z0 := Try.sizeOf0
  v0 := Try.zeroValue0
  t24 := Try.underlying26
  a24 := Try.isAgg26
  z24 := Try.sizeOf26
  v24 := Try.zeroValue26
  t26 := Try.underlying3
  a26 := Try.isAgg3
  z26 := Try.sizeOf3
  v26 := Try.zeroValue3
  t28 := Try.underlying54
  a28 := Try.isAgg54
  z28 := Try.sizeOf54
  v28 := Try.zeroValue54
  i26 := by kernel_rfl }
def Try.sortA_ren : Go.Shelf.Ren := ⟨fun | 5 => 47 | 8 => 52 | 7 => 51 | 19 => 62 | 20 => 63 | 10 => 53 | 11 => 54 | 12 => 55 | 13 => 56 | 14 => 57 | 15 => 58 | 16 => 59 | 17 => 60 | 18 => 61 | 30 => 64 | 31 => 65 | 32 => 66 | 33 => 67 | 34 => 68 | 35 => 69 | 40 => 70 | n => n, fun | 23 => 26 | 25 => 3 | 3 => 3 | 32 => 65 | 22 => 26 | 0 => 0 | 44 => 74 | 46 => 76 | 4 => 4 | 36 => 68 | 35 => 67 | 41 => 71 | 5 => 5 | 9 => 9 | 53 => 77 | 57 => 81 | 63 => 83 | 64 => 84 | n => n, fun | n => n⟩
theorem Try.sortA : Go.Proofs.SlLaysM.n5 Try.prog Try.sortA_ren := {
  mixed := by kernel_rfl
  f5 := ⟨Try.f47.name, by decide, Try.func47.trans (congrArg some (by kernel_rfl))⟩
  f7 := ⟨Try.f51.name, by decide, Try.func51.trans (congrArg some (by kernel_rfl))⟩
  f8 := Try.func52.trans (congrArg some (by kernel_rfl))
  f10 := ⟨Try.f53.name, by decide, Try.func53.trans (congrArg some (by kernel_rfl))⟩
  f11 := ⟨Try.f54.name, by decide, Try.func54.trans (congrArg some (by kernel_rfl))⟩
  f12 := ⟨Try.f55.name, by decide, Try.func55.trans (congrArg some (by kernel_rfl))⟩
  f13 := ⟨Try.f56.name, by decide, Try.func56.trans (congrArg some (by kernel_rfl))⟩
  f14 := ⟨Try.f57.name, by decide, Try.func57.trans (congrArg some (by kernel_rfl))⟩
  f15 := ⟨Try.f58.name, by decide, Try.func58.trans (congrArg some (by kernel_rfl))⟩
  f16 := ⟨Try.f59.name, by decide, Try.func59.trans (congrArg some (by kernel_rfl))⟩
  f17 := ⟨Try.f60.name, by decide, Try.func60.trans (congrArg some (by kernel_rfl))⟩
  f18 := ⟨Try.f61.name, by decide, Try.func61.trans (congrArg some (by kernel_rfl))⟩
  f19 := Try.func62.trans (congrArg some (by kernel_rfl))
  f20 := Try.func63.trans (congrArg some (by kernel_rfl))
  f30 := ⟨Try.f64.name, by decide, Try.func64.trans (congrArg some (by kernel_rfl))⟩
  f31 := Try.func65.trans (congrArg some (by kernel_rfl))
  f32 := Try.func66.trans (congrArg some (by kernel_rfl))
  f33 := ⟨Try.f67.name, by decide, Try.func67.trans (congrArg some (by kernel_rfl))⟩
  f34 := ⟨Try.f68.name, by decide, Try.func68.trans (congrArg some (by kernel_rfl))⟩
  f35 := ⟨Try.f69.name, by decide, Try.func69.trans (congrArg some (by kernel_rfl))⟩
  f40 := ⟨Try.f70.name, by decide, Try.func70.trans (congrArg some (by kernel_rfl))⟩
  t0 := Try.underlying0
  a0 := Try.isAgg0
  z0 := Try.sizeOf0
  v0 := Try.zeroValue0
  t3 := Try.underlying3
  a3 := Try.isAgg3
  z3 := Try.sizeOf3
  v3 := Try.zeroValue3
  t4 := Try.underlying4
  a4 := Try.isAgg4
  z4 := Try.sizeOf4
  v4 := Try.zeroValue4
  t5 := Try.underlying5
  a5 := Try.isAgg5
  z5 := Try.sizeOf5
  v5 := Try.zeroValue5
  t9 := Try.underlying9
  a9 := Try.isAgg9
  z9 := Try.sizeOf9
  v9 := Try.zeroValue9
  t22 := Try.underlying26
  a22 := Try.isAgg26
  z22 := Try.sizeOf26
  v22 := Try.zeroValue26
  t23 := Try.underlying26
  a23 := Try.isAgg26
  z23 := Try.sizeOf26
  v23 := Try.zeroValue26
  t25 := Try.underlying3
  a25 := Try.isAgg3
  z25 := Try.sizeOf3
  v25 := Try.zeroValue3
  t32 := Try.underlying65
  a32 := Try.isAgg65
  z32 := Try.sizeOf65
  v32 := Try.zeroValue65
  t35 := Try.underlying67
  a35 := Try.isAgg67
  z35 := Try.sizeOf67
  v35 := Try.zeroValue67
  t36 := Try.underlying68
  a36 := Try.isAgg68
  z36 := Try.sizeOf68
  v36 := Try.zeroValue68
  t41 := Try.underlying71
  a41 := Try.isAgg71
  z41 := Try.sizeOf71
  v41 := Try.zeroValue71
  t44 := Try.underlying74
  a44 := Try.isAgg74
  z44 := Try.sizeOf74
  v44 := Try.zeroValue74
  t46 := Try.underlying76
  a46 := Try.isAgg76
  z46 := Try.sizeOf76
  v46 := Try.zeroValue76
  t53 := Try.underlying77
  a53 := Try.isAgg77
  z53 := Try.sizeOf77
  v53 := Try.zeroValue77
  t57 := Try.underlying81
  a57 := Try.isAgg81
  z57 := Try.sizeOf81
  v57 := Try.zeroValue81
  t63 := Try.underlying83
  a63 := Try.isAgg83
  z63 := Try.sizeOf83
  v63 := Try.zeroValue83
  t64 := Try.underlying84
  a64 := Try.isAgg84
  z64 := Try.sizeOf84
  v64 := Try.zeroValue84 }
def Try.equalA_ren : Go.Shelf.Ren := ⟨fun | 33 => 28 | n => n, fun | 22 => 26 | 23 => 3 | 4 => 4 | 3 => 3 | 0 => 0 | n => n, fun | n => n⟩
theorem Try.equalA : Go.Proofs.SlLaysN.n33 Try.prog Try.equalA_ren := {
  mixed := by kernel_rfl
  f33 := ⟨Try.f28.name, by decide, Try.func28.trans (congrArg some (by kernel_rfl))⟩
  t0 := Try.underlying0
  a0 := Try.isAgg0
  z0 := Try.sizeOf0
  v0 := Try.zeroValue0
  t3 := Try.underlying3
  a3 := Try.isAgg3
  z3 := Try.sizeOf3
  v3 := Try.zeroValue3
  t4 := Try.underlying4
  a4 := Try.isAgg4
  z4 := Try.sizeOf4
  v4 := Try.zeroValue4
  t22 := Try.underlying26
  a22 := Try.isAgg26
  z22 := Try.sizeOf26
  v22 := Try.zeroValue26
  t23 := Try.underlying3
  a23 := Try.isAgg3
  z23 := Try.sizeOf3
  v23 := Try.zeroValue3 }
end Go.Proofs
end
