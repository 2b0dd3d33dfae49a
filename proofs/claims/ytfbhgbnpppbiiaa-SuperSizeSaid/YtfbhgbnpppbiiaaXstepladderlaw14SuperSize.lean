-- By this session's own program (wip/tools/xprint.py), over the kit's print. Not trusted: Lean checks it.
import Derived.Test.YtfbhgbnpppbiiaaX0
import Derived.Test.YtfbhgbnpppbiiaaXsuperUp
import Derived.Test.YtfbhgbnpppbiiaaXsuperPrefix
import Derived.Test.YtfbhgbnpppbiiaaXsuperFrom
import Derived.Test.YtfbhgbnpppbiiaaXstepladderlaw14awake
namespace Go.Proofs.Ytfbhgbnpppbiiaa.X
open Go.RowKit Go.Proofs.YtfbhgbnpppbiiaaW.PrintWords Go.Proofs.YtfbhgbnpppbiiaaW.PrintLast Go.Proofs.YtfbhgbnpppbiiaaW.PrintMore
attribute [local go_sem] max2_int min2_int max_two min_two max_three min_three max_four min_four   -- for this text's walks alone
set_option linter.unusedVariables false
set_option linter.unusedSimpArgs false

/-! ### stepladderlaw14_SuperSize: function 9 -/
mutual
def stepladderlaw14_SuperSize.j0 : Nat → List Int → Int → Int → Int → Bool → Bool → Option (Bool)
  | 0, _, _, _, _, _, _ => none
  | k + 1, x0, x1, x2, x3, x9, x37 => if x37 = true then (some x9) else ((super_Prefix.f x0 x1 x2).bind fun bt211 => (if bt211.2 = true then (if x1 < 1 then (stepladderlaw14_SuperSize.j1 k x0 x1 x2 x3 bt211.1 true) else (if x2 < 1 then (stepladderlaw14_SuperSize.j1 k x0 x1 x2 x3 bt211.1 true) else (stepladderlaw14_SuperSize.j1 k x0 x1 x2 x3 bt211.1 (decide (x2 ≥ (x0.length : Int)))))) else (some true)))
def stepladderlaw14_SuperSize.j1 : Nat → List Int → Int → Int → Int → List Int → Bool → Option (Bool)
  | 0, _, _, _, _, _, _ => none
  | k + 1, x0, x1, x2, x3, x10, x59 => if x59 = true then (some false) else ((super_Up.f k x0 0 (wrap64 ((x0.length : Int) - x2)) (wrap64 (x3 + 1))).bind fun t215 => (if (t215.length : Int) ≥ x1 then (if 0 ≤ (wrap64 ((t215.length : Int) - x1)) then (if (wrap64 ((t215.length : Int) - x1)) < (t215.length : Int) then (stepladderlaw14_SuperSize.j2 k x0 x1 x2 x3 x10 (rd t215 (wrap64 ((t215.length : Int) - x1)))) else (none)) else (none)) else (stepladderlaw14_SuperSize.j2 k x0 x1 x2 x3 x10 0)))
def stepladderlaw14_SuperSize.j2 : Nat → List Int → Int → Int → Int → List Int → Int → Option (Bool)
  | 0, _, _, _, _, _, _ => none
  | k + 1, x0, x1, x2, x3, x10, x13 => if x13 < 0 then (some false) else (stepladderlaw14_SuperSize.l0 k x0 x1 x2 x3 x10 x13 0 0)
def stepladderlaw14_SuperSize.l0 : Nat → List Int → Int → Int → Int → List Int → Int → Int → Int → Option (Bool)
  | 0, _, _, _, _, _, _, _, _ => none
  | k + 1, x0, x1, x2, x3, x10, x13, x14, x15 => if x15 < (x10.length : Int) then (if 0 ≤ x15 then (if (rd x10 x15) < 0 then (stepladderlaw14_SuperSize.j4 k x0 x1 x2 x3 x10 x13 x14 x15 true) else (stepladderlaw14_SuperSize.j4 k x0 x1 x2 x3 x10 x13 x14 x15 (decide ((rd x10 x15) ≥ (x0.length : Int))))) else (none)) else (stepladderlaw14_SuperSize.l1 k x0 x1 x2 x3 x13 x14 0 x13)
def stepladderlaw14_SuperSize.j4 : Nat → List Int → Int → Int → Int → List Int → Int → Int → Int → Bool → Option (Bool)
  | 0, _, _, _, _, _, _, _, _, _ => none
  | k + 1, x0, x1, x2, x3, x10, x13, x14, x15, x100 => if x100 = true then (some false) else (if 0 ≤ x15 then (if x15 < (x10.length : Int) then (if 0 ≤ (rd x10 x15) then (if (rd x10 x15) < (x0.length : Int) then (if (rd x0 (rd x10 x15)) = x3 then (stepladderlaw14_SuperSize.l0 k x0 x1 x2 x3 x10 x13 (wrap64 (x14 + 1)) (wrap64 (x15 + 1))) else (stepladderlaw14_SuperSize.l0 k x0 x1 x2 x3 x10 x13 x14 (wrap64 (x15 + 1)))) else (none)) else (none)) else (none)) else (none))
def stepladderlaw14_SuperSize.l1 : Nat → List Int → Int → Int → Int → Int → Int → Int → Int → Option (Bool)
  | 0, _, _, _, _, _, _, _, _ => none
  | k + 1, x0, x1, x2, x3, x13, x14, x16, x17 => if x17 < (wrap64 ((x0.length : Int) - x2)) then (if 0 ≤ x17 then (if x17 < (x0.length : Int) then (if (rd x0 x17) = x3 then (stepladderlaw14_SuperSize.l1 k x0 x1 x2 x3 x13 x14 (wrap64 (x16 + 1)) (wrap64 (x17 + 1))) else (stepladderlaw14_SuperSize.l1 k x0 x1 x2 x3 x13 x14 x16 (wrap64 (x17 + 1)))) else (none)) else (none)) else (if x14 = x16 then ((super_From.f x0 x1 x2 x3).bind fun t224 => (some (t224 == x13))) else (some false))
end
def stepladderlaw14_SuperSize.f (k : Nat) (l0 : List Int) (a1 : Int) (a2 : Int) (a3 : Int) : Option (Bool) := (stepladderlaw14_awake.f k).bind fun t210 => (if t210 = true then (if (l0.length : Int) > 210 then (stepladderlaw14_SuperSize.j0 k l0 a1 a2 a3 t210 true) else (if a3 < 0 then (stepladderlaw14_SuperSize.j0 k l0 a1 a2 a3 t210 true) else (if a3 > 31 then (stepladderlaw14_SuperSize.j0 k l0 a1 a2 a3 t210 true) else (stepladderlaw14_SuperSize.j0 k l0 a1 a2 a3 t210 (decide (a1 > 1000)))))) else (stepladderlaw14_SuperSize.j0 k l0 a1 a2 a3 t210 true))
theorem stepladderlaw14_SuperSize.mono_l : ∀ k, (∀ y0 y1 y2 y3 y4 y5, LeO (stepladderlaw14_SuperSize.j0 k y0 y1 y2 y3 y4 y5) (stepladderlaw14_SuperSize.j0 (k + 1) y0 y1 y2 y3 y4 y5)) ∧ (∀ y0 y1 y2 y3 y4 y5, LeO (stepladderlaw14_SuperSize.j1 k y0 y1 y2 y3 y4 y5) (stepladderlaw14_SuperSize.j1 (k + 1) y0 y1 y2 y3 y4 y5)) ∧ (∀ y0 y1 y2 y3 y4 y5, LeO (stepladderlaw14_SuperSize.j2 k y0 y1 y2 y3 y4 y5) (stepladderlaw14_SuperSize.j2 (k + 1) y0 y1 y2 y3 y4 y5)) ∧ (∀ y0 y1 y2 y3 y4 y5 y6 y7, LeO (stepladderlaw14_SuperSize.l0 k y0 y1 y2 y3 y4 y5 y6 y7) (stepladderlaw14_SuperSize.l0 (k + 1) y0 y1 y2 y3 y4 y5 y6 y7)) ∧ (∀ y0 y1 y2 y3 y4 y5 y6 y7 y8, LeO (stepladderlaw14_SuperSize.j4 k y0 y1 y2 y3 y4 y5 y6 y7 y8) (stepladderlaw14_SuperSize.j4 (k + 1) y0 y1 y2 y3 y4 y5 y6 y7 y8)) ∧ (∀ y0 y1 y2 y3 y4 y5 y6 y7, LeO (stepladderlaw14_SuperSize.l1 k y0 y1 y2 y3 y4 y5 y6 y7) (stepladderlaw14_SuperSize.l1 (k + 1) y0 y1 y2 y3 y4 y5 y6 y7))
  | 0 => ⟨fun _ _ _ _ _ _ r h => by simp [stepladderlaw14_SuperSize.j0] at h, fun _ _ _ _ _ _ r h => by simp [stepladderlaw14_SuperSize.j1] at h, fun _ _ _ _ _ _ r h => by simp [stepladderlaw14_SuperSize.j2] at h, fun _ _ _ _ _ _ _ _ r h => by simp [stepladderlaw14_SuperSize.l0] at h, fun _ _ _ _ _ _ _ _ _ r h => by simp [stepladderlaw14_SuperSize.j4] at h, fun _ _ _ _ _ _ _ _ r h => by simp [stepladderlaw14_SuperSize.l1] at h⟩
  | k + 1 => by
    obtain ⟨ih0, ih1, ih2, ih3, ih4, ih5⟩ := stepladderlaw14_SuperSize.mono_l k
    refine ⟨?_, ?_, ?_, ?_, ?_, ?_⟩
    · intro y0 y1 y2 y3 y4 y5
      unfold stepladderlaw14_SuperSize.j0
      repeat' first
      | (with_reducible exact ih0 _ _ _ _ _ _)
      | (with_reducible exact ih1 _ _ _ _ _ _)
      | (with_reducible exact ih2 _ _ _ _ _ _)
      | (with_reducible exact ih3 _ _ _ _ _ _ _ _)
      | (with_reducible exact ih4 _ _ _ _ _ _ _ _ _)
      | (with_reducible exact ih5 _ _ _ _ _ _ _ _)
      | (with_reducible exact stepladderlaw14_awake.mono _)
      | (with_reducible exact super_Up.mono _ _ _ _ _)
      | (with_reducible exact LeO.refl _)
      | (with_reducible exact LeO.none _)
      | (with_reducible refine LeO.ite ?_ ?_)
      | (with_reducible refine LeO.bind ?_ (fun _ => ?_))
      | exact ih0 _ _ _ _ _ _
      | exact ih1 _ _ _ _ _ _
      | exact ih2 _ _ _ _ _ _
      | exact ih3 _ _ _ _ _ _ _ _
      | exact ih4 _ _ _ _ _ _ _ _ _
      | exact ih5 _ _ _ _ _ _ _ _
      | exact stepladderlaw14_awake.mono _
      | exact super_Up.mono _ _ _ _ _
      | exact LeO.none _
      | refine LeO.ite ?_ ?_
      | refine LeO.bind ?_ (fun _ => ?_)
    · intro y0 y1 y2 y3 y4 y5
      unfold stepladderlaw14_SuperSize.j1
      repeat' first
      | (with_reducible exact ih0 _ _ _ _ _ _)
      | (with_reducible exact ih1 _ _ _ _ _ _)
      | (with_reducible exact ih2 _ _ _ _ _ _)
      | (with_reducible exact ih3 _ _ _ _ _ _ _ _)
      | (with_reducible exact ih4 _ _ _ _ _ _ _ _ _)
      | (with_reducible exact ih5 _ _ _ _ _ _ _ _)
      | (with_reducible exact stepladderlaw14_awake.mono _)
      | (with_reducible exact super_Up.mono _ _ _ _ _)
      | (with_reducible exact LeO.refl _)
      | (with_reducible exact LeO.none _)
      | (with_reducible refine LeO.ite ?_ ?_)
      | (with_reducible refine LeO.bind ?_ (fun _ => ?_))
      | exact ih0 _ _ _ _ _ _
      | exact ih1 _ _ _ _ _ _
      | exact ih2 _ _ _ _ _ _
      | exact ih3 _ _ _ _ _ _ _ _
      | exact ih4 _ _ _ _ _ _ _ _ _
      | exact ih5 _ _ _ _ _ _ _ _
      | exact stepladderlaw14_awake.mono _
      | exact super_Up.mono _ _ _ _ _
      | exact LeO.none _
      | refine LeO.ite ?_ ?_
      | refine LeO.bind ?_ (fun _ => ?_)
    · intro y0 y1 y2 y3 y4 y5
      unfold stepladderlaw14_SuperSize.j2
      repeat' first
      | (with_reducible exact ih0 _ _ _ _ _ _)
      | (with_reducible exact ih1 _ _ _ _ _ _)
      | (with_reducible exact ih2 _ _ _ _ _ _)
      | (with_reducible exact ih3 _ _ _ _ _ _ _ _)
      | (with_reducible exact ih4 _ _ _ _ _ _ _ _ _)
      | (with_reducible exact ih5 _ _ _ _ _ _ _ _)
      | (with_reducible exact stepladderlaw14_awake.mono _)
      | (with_reducible exact super_Up.mono _ _ _ _ _)
      | (with_reducible exact LeO.refl _)
      | (with_reducible exact LeO.none _)
      | (with_reducible refine LeO.ite ?_ ?_)
      | (with_reducible refine LeO.bind ?_ (fun _ => ?_))
      | exact ih0 _ _ _ _ _ _
      | exact ih1 _ _ _ _ _ _
      | exact ih2 _ _ _ _ _ _
      | exact ih3 _ _ _ _ _ _ _ _
      | exact ih4 _ _ _ _ _ _ _ _ _
      | exact ih5 _ _ _ _ _ _ _ _
      | exact stepladderlaw14_awake.mono _
      | exact super_Up.mono _ _ _ _ _
      | exact LeO.none _
      | refine LeO.ite ?_ ?_
      | refine LeO.bind ?_ (fun _ => ?_)
    · intro y0 y1 y2 y3 y4 y5 y6 y7
      unfold stepladderlaw14_SuperSize.l0
      repeat' first
      | (with_reducible exact ih0 _ _ _ _ _ _)
      | (with_reducible exact ih1 _ _ _ _ _ _)
      | (with_reducible exact ih2 _ _ _ _ _ _)
      | (with_reducible exact ih3 _ _ _ _ _ _ _ _)
      | (with_reducible exact ih4 _ _ _ _ _ _ _ _ _)
      | (with_reducible exact ih5 _ _ _ _ _ _ _ _)
      | (with_reducible exact stepladderlaw14_awake.mono _)
      | (with_reducible exact super_Up.mono _ _ _ _ _)
      | (with_reducible exact LeO.refl _)
      | (with_reducible exact LeO.none _)
      | (with_reducible refine LeO.ite ?_ ?_)
      | (with_reducible refine LeO.bind ?_ (fun _ => ?_))
      | exact ih0 _ _ _ _ _ _
      | exact ih1 _ _ _ _ _ _
      | exact ih2 _ _ _ _ _ _
      | exact ih3 _ _ _ _ _ _ _ _
      | exact ih4 _ _ _ _ _ _ _ _ _
      | exact ih5 _ _ _ _ _ _ _ _
      | exact stepladderlaw14_awake.mono _
      | exact super_Up.mono _ _ _ _ _
      | exact LeO.none _
      | refine LeO.ite ?_ ?_
      | refine LeO.bind ?_ (fun _ => ?_)
    · intro y0 y1 y2 y3 y4 y5 y6 y7 y8
      unfold stepladderlaw14_SuperSize.j4
      repeat' first
      | (with_reducible exact ih0 _ _ _ _ _ _)
      | (with_reducible exact ih1 _ _ _ _ _ _)
      | (with_reducible exact ih2 _ _ _ _ _ _)
      | (with_reducible exact ih3 _ _ _ _ _ _ _ _)
      | (with_reducible exact ih4 _ _ _ _ _ _ _ _ _)
      | (with_reducible exact ih5 _ _ _ _ _ _ _ _)
      | (with_reducible exact stepladderlaw14_awake.mono _)
      | (with_reducible exact super_Up.mono _ _ _ _ _)
      | (with_reducible exact LeO.refl _)
      | (with_reducible exact LeO.none _)
      | (with_reducible refine LeO.ite ?_ ?_)
      | (with_reducible refine LeO.bind ?_ (fun _ => ?_))
      | exact ih0 _ _ _ _ _ _
      | exact ih1 _ _ _ _ _ _
      | exact ih2 _ _ _ _ _ _
      | exact ih3 _ _ _ _ _ _ _ _
      | exact ih4 _ _ _ _ _ _ _ _ _
      | exact ih5 _ _ _ _ _ _ _ _
      | exact stepladderlaw14_awake.mono _
      | exact super_Up.mono _ _ _ _ _
      | exact LeO.none _
      | refine LeO.ite ?_ ?_
      | refine LeO.bind ?_ (fun _ => ?_)
    · intro y0 y1 y2 y3 y4 y5 y6 y7
      unfold stepladderlaw14_SuperSize.l1
      repeat' first
      | (with_reducible exact ih0 _ _ _ _ _ _)
      | (with_reducible exact ih1 _ _ _ _ _ _)
      | (with_reducible exact ih2 _ _ _ _ _ _)
      | (with_reducible exact ih3 _ _ _ _ _ _ _ _)
      | (with_reducible exact ih4 _ _ _ _ _ _ _ _ _)
      | (with_reducible exact ih5 _ _ _ _ _ _ _ _)
      | (with_reducible exact stepladderlaw14_awake.mono _)
      | (with_reducible exact super_Up.mono _ _ _ _ _)
      | (with_reducible exact LeO.refl _)
      | (with_reducible exact LeO.none _)
      | (with_reducible refine LeO.ite ?_ ?_)
      | (with_reducible refine LeO.bind ?_ (fun _ => ?_))
      | exact ih0 _ _ _ _ _ _
      | exact ih1 _ _ _ _ _ _
      | exact ih2 _ _ _ _ _ _
      | exact ih3 _ _ _ _ _ _ _ _
      | exact ih4 _ _ _ _ _ _ _ _ _
      | exact ih5 _ _ _ _ _ _ _ _
      | exact stepladderlaw14_awake.mono _
      | exact super_Up.mono _ _ _ _ _
      | exact LeO.none _
      | refine LeO.ite ?_ ?_
      | refine LeO.bind ?_ (fun _ => ?_)
theorem stepladderlaw14_SuperSize.mono : ∀ a0 a1 a2 a3 k, LeO (stepladderlaw14_SuperSize.f k a0 a1 a2 a3) (stepladderlaw14_SuperSize.f (k + 1) a0 a1 a2 a3) := by
  intro a0 a1 a2 a3 k
  obtain ⟨ih0, ih1, ih2, ih3, ih4, ih5⟩ := stepladderlaw14_SuperSize.mono_l k
  unfold stepladderlaw14_SuperSize.f
  repeat' first
      | (with_reducible exact ih0 _ _ _ _ _ _)
      | (with_reducible exact ih1 _ _ _ _ _ _)
      | (with_reducible exact ih2 _ _ _ _ _ _)
      | (with_reducible exact ih3 _ _ _ _ _ _ _ _)
      | (with_reducible exact ih4 _ _ _ _ _ _ _ _ _)
      | (with_reducible exact ih5 _ _ _ _ _ _ _ _)
      | (with_reducible exact stepladderlaw14_awake.mono _)
      | (with_reducible exact super_Up.mono _ _ _ _ _)
      | (with_reducible exact LeO.refl _)
      | (with_reducible exact LeO.none _)
      | (with_reducible refine LeO.ite ?_ ?_)
      | (with_reducible refine LeO.bind ?_ (fun _ => ?_))
      | exact ih0 _ _ _ _ _ _
      | exact ih1 _ _ _ _ _ _
      | exact ih2 _ _ _ _ _ _
      | exact ih3 _ _ _ _ _ _ _ _
      | exact ih4 _ _ _ _ _ _ _ _ _
      | exact ih5 _ _ _ _ _ _ _ _
      | exact stepladderlaw14_awake.mono _
      | exact super_Up.mono _ _ _ _ _
      | exact LeO.none _
      | refine LeO.ite ?_ ?_
      | refine LeO.bind ?_ (fun _ => ?_)
set_option maxHeartbeats 8000000 in
set_option maxRecDepth 100000 in
theorem stepladderlaw14_SuperSize.calls (k : Nat) (A0 : Option Addr) (c0 : Nat) (l0 : List Int) (a1 : Int) (a2 : Int) (a3 : Int) (r : Bool) (w : World) (hr0 : Kd.C (Kd.int .i64) w A0 l0.length l0) (hc0 : l0.length ≤ c0) (h : stepladderlaw14_SuperSize.f k l0 a1 a2 a3 = some r) :
    Calls Try.prog 9 #[.slice A0 l0.length c0, .int .i64 a1, .int .i64 a2, .int .i64 a3] w fun e w' => e = .returned (.bool r) ∧ Below w.heap.size w w' := by
  have HR0 := Aside0.mk hr0
  have HC0 := Aside0.mk hc0
  clear hr0 hc0
  have HB := Aside0.mk (Below.refl w.heap.size w)
  have H : ((stepladderlaw14_awake.f k).bind fun t210 => (if t210 = true then (if (l0.length : Int) > 210 then (stepladderlaw14_SuperSize.j0 k l0 a1 a2 a3 t210 true) else (if a3 < 0 then (stepladderlaw14_SuperSize.j0 k l0 a1 a2 a3 t210 true) else (if a3 > 31 then (stepladderlaw14_SuperSize.j0 k l0 a1 a2 a3 t210 true) else (stepladderlaw14_SuperSize.j0 k l0 a1 a2 a3 t210 (decide (a1 > 1000)))))) else (stepladderlaw14_SuperSize.j0 k l0 a1 a2 a3 t210 true))) = some r := h
  clear h
  replace H := Option.bind_eq_some_iff.mp H
  obtain ⟨t210, A50, H⟩ := H
  replace H : (if t210 = true then (if (l0.length : Int) > 210 then (stepladderlaw14_SuperSize.j0 k l0 a1 a2 a3 t210 true) else (if a3 < 0 then (stepladderlaw14_SuperSize.j0 k l0 a1 a2 a3 t210 true) else (if a3 > 31 then (stepladderlaw14_SuperSize.j0 k l0 a1 a2 a3 t210 true) else (stepladderlaw14_SuperSize.j0 k l0 a1 a2 a3 t210 (decide (a1 > 1000)))))) else (stepladderlaw14_SuperSize.j0 k l0 a1 a2 a3 t210 true)) = some r := H
  have A5 := Aside0.mk A50
  clear A50
  have HC6 := Aside0.mk H
  clear H
  go_enter Try.func9, Try.ntmps9
  go_upto_region 2 with (first | ((with_reducible refine gate_callee (f := 22) rfl ?_); refine goesL_ (some 18) rfl rfl Try.func22 (by kernel_rfl) rfl #[] rfl (by (try simp only [List.map_toArray, List.map_cons, List.map_nil]); first | done | rfl | (simp only [List.length_drop, List.length_take]; rfl)) ?_; (with_reducible refine (stepladderlaw14_awake.calls k  t210 _ A5.out).mono ?_); rintro e w7 ⟨rfl, hb⟩; refine ⟨_, rfl, ?_⟩; have n0_ := Aside0.mk (below_step (by repeat (first | (with_reducible first | exact HB.out | apply below_alloc | apply pw_below_drewN | apply below_drew1) | exact HB.out)) hb); clear HB; have HB := n0_; clear n0_; (try clear hb); (try clear hb2); (try clear hk); (try clear hi)))
  (try simp only [Act.put, List.setIfInBounds_toArray, List.set_cons_zero, List.set_cons_succ])
  go_cut [37] (fun v37 wc => ∃ (kq : Nat) (x37_5 : Bool), v37 = .bool x37_5 ∧ Aside0 (stepladderlaw14_SuperSize.j0 kq l0 a1 a2 a3 t210 x37_5 = some r) ∧ Aside0 (kq ≤ k) ∧ Aside0 (Below w.heap.size w wc))
  case first =>
    have H := HC6.out
    clear HC6
    by_cases c8 : t210 = true
    · subst c8
      have H1 : (if (l0.length : Int) > 210 then (stepladderlaw14_SuperSize.j0 k l0 a1 a2 a3 true true) else (if a3 < 0 then (stepladderlaw14_SuperSize.j0 k l0 a1 a2 a3 true true) else (if a3 > 31 then (stepladderlaw14_SuperSize.j0 k l0 a1 a2 a3 true true) else (stepladderlaw14_SuperSize.j0 k l0 a1 a2 a3 true (decide (a1 > 1000)))))) = some r := by rw [if_pos rfl] at H; exact H
      clear H
      have H := H1
      clear H1
      by_cases c9 : (l0.length : Int) > 210
      · rw [if_pos c9] at H
        have c9b0 : decide (210 < (l0.length : Int)) = true := decide_eq_true c9
        have c9b1 : decide (210 < l0.length) = true := decide_eq_true (by omega)
        clear c9
        (first | rw [c9b0] | (simp only [i64_w, i32_w]; rw [c9b0]) | skip)
        have H' := Aside0.mk H
        clear H
        go_wp2
        go_meet
        case rel => exact ⟨_, (true), (by first | rfl | (simp; done) | (simp [*]; done)), H', ⟨by first | omega | exact Nat.le_refl _⟩, ⟨by repeat (first | (with_reducible first | exact HB.out | apply below_alloc | apply pw_below_drewN | apply below_drew1) | exact HB.out)⟩⟩
      · rw [if_neg c9] at H
        have c9b0 : decide (210 < (l0.length : Int)) = false := decide_eq_false c9
        have c9b1 : decide (210 < l0.length) = false := decide_eq_false (by omega)
        clear c9
        (first | rw [c9b0] | (simp only [i64_w, i32_w]; rw [c9b0]) | skip)
        by_cases c10 : a3 < 0
        · rw [if_pos c10] at H
          have c10b0 : decide (a3 < 0) = true := decide_eq_true c10
          clear c10
          have H' := Aside0.mk H
          clear H
          go_wp2
          go_meet
          case rel => exact ⟨_, (true), (by first | rfl | (simp; done) | (simp [*]; done)), H', ⟨by first | omega | exact Nat.le_refl _⟩, ⟨by repeat (first | (with_reducible first | exact HB.out | apply below_alloc | apply pw_below_drewN | apply below_drew1) | exact HB.out)⟩⟩
        · rw [if_neg c10] at H
          have c10b0 : decide (a3 < 0) = false := decide_eq_false c10
          clear c10
          by_cases c11 : a3 > 31
          · rw [if_pos c11] at H
            have c11b0 : decide (31 < a3) = true := decide_eq_true c11
            clear c11
            have H' := Aside0.mk H
            clear H
            go_wp2
            go_meet
            case rel => exact ⟨_, (true), (by first | rfl | (simp; done) | (simp [*]; done)), H', ⟨by first | omega | exact Nat.le_refl _⟩, ⟨by repeat (first | (with_reducible first | exact HB.out | apply below_alloc | apply pw_below_drewN | apply below_drew1) | exact HB.out)⟩⟩
          · rw [if_neg c11] at H
            have c11b0 : decide (31 < a3) = false := decide_eq_false c11
            clear c11
            have H' := Aside0.mk H
            clear H
            go_wp2
            go_meet
            case rel => exact ⟨_, (decide (a1 > 1000)), (by first | rfl | (simp; done) | (simp [*]; done)), H', ⟨by first | omega | exact Nat.le_refl _⟩, ⟨by repeat (first | (with_reducible first | exact HB.out | apply below_alloc | apply pw_below_drewN | apply below_drew1) | exact HB.out)⟩⟩
    · replace c8 := Bool.eq_false_iff.mpr c8
      subst c8
      have H1 : (stepladderlaw14_SuperSize.j0 k l0 a1 a2 a3 false true) = some r := by rw [if_neg (show ¬ (false = true) by decide)] at H; exact H
      clear H
      have H := H1
      clear H1
      have H' := Aside0.mk H
      clear H
      go_wp2
      go_meet
      case rel => exact ⟨_, (true), (by first | rfl | (simp; done) | (simp [*]; done)), H', ⟨by first | omega | exact Nat.le_refl _⟩, ⟨by repeat (first | (with_reducible first | exact HB.out | apply below_alloc | apply pw_below_drewN | apply below_drew1) | exact HB.out)⟩⟩
  case rest =>
    clear HC6
    try clear c1
    try clear c2
    try clear p2
    try clear c8
    try clear c9
    try clear c9b0
    try clear c9b1
    try clear c10
    try clear c10b0
    try clear c11
    try clear c11b0
    obtain ⟨kq, x37_5, rfl, HA, HJ5, HB⟩ := hcut
    cases kq with
    | zero => exact absurd HA.out (by simp [stepladderlaw14_SuperSize.j0])
    | succ kj5 =>
      have H := HA.out
      clear HA
      simp only [stepladderlaw14_SuperSize.j0] at H
      by_cases c12 : x37_5 = true
      · subst c12
        have H1 : (some t210) = some r := by rw [if_pos rfl] at H; exact H
        clear H
        have H := H1
        clear H1
        obtain rfl := Option.some.inj H
        go_wp2
        go_ret
        exact ⟨by first | rfl | (simp [errW_none, errW_some] <;> rfl) | (simp [*, errW_none, errW_some] <;> rfl), by repeat (first | (with_reducible first | exact HB.out | apply below_alloc | apply pw_below_drewN | apply below_drew1) | exact HB.out)⟩
      · replace c12 := Bool.eq_false_iff.mpr c12
        subst c12
        have H1 : ((super_Prefix.f l0 a1 a2).bind fun bt211 => (if bt211.2 = true then (if a1 < 1 then (stepladderlaw14_SuperSize.j1 kj5 l0 a1 a2 a3 bt211.1 true) else (if a2 < 1 then (stepladderlaw14_SuperSize.j1 kj5 l0 a1 a2 a3 bt211.1 true) else (stepladderlaw14_SuperSize.j1 kj5 l0 a1 a2 a3 bt211.1 (decide (a2 ≥ (l0.length : Int)))))) else (some true))) = some r := by rw [if_neg (show ¬ (false = true) by decide)] at H; exact H
        clear H
        have H := H1
        clear H1
        replace H := Option.bind_eq_some_iff.mp H
        obtain ⟨⟨t211, t212⟩, A130, H⟩ := H
        replace H : (if t212 = true then (if a1 < 1 then (stepladderlaw14_SuperSize.j1 kj5 l0 a1 a2 a3 t211 true) else (if a2 < 1 then (stepladderlaw14_SuperSize.j1 kj5 l0 a1 a2 a3 t211 true) else (stepladderlaw14_SuperSize.j1 kj5 l0 a1 a2 a3 t211 (decide (a2 ≥ (l0.length : Int)))))) else (some true)) = some r := H
        have A13 := Aside0.mk A130
        clear A130
        by_cases c14 : t212 = true
        · subst c14
          have H1 : (if a1 < 1 then (stepladderlaw14_SuperSize.j1 kj5 l0 a1 a2 a3 t211 true) else (if a2 < 1 then (stepladderlaw14_SuperSize.j1 kj5 l0 a1 a2 a3 t211 true) else (stepladderlaw14_SuperSize.j1 kj5 l0 a1 a2 a3 t211 (decide (a2 ≥ (l0.length : Int)))))) = some r := by rw [if_pos rfl] at H; exact H
          clear H
          have H := H1
          clear H1
          have HC15 := Aside0.mk H
          clear H
          go_upto_region 7 with (first | ((with_reducible refine gate_callee (f := 23) rfl ?_); refine goesL_ (some 43) rfl rfl Try.func23 (by kernel_rfl) rfl #[.slice A0 l0.length c0, .int .i64 a1, .int .i64 a2] rfl (by (try simp only [List.map_toArray, List.map_cons, List.map_nil]); first | done | rfl | (simp only [List.length_drop, List.length_take]; rfl)) ?_; (with_reducible refine (super_Prefix.calls _ _ l0 a1 a2 t211 true _ ?side1 ?side2 A13.out).mono ?_); (case side1 => repeat (first | exact (Kd.C_below HR0.out HB.out) | (with_reducible refine Kd.C_alloc ?_ _) | (with_reducible refine Kd.C_drewN ?_ _) | (with_reducible refine Kd.C_drew ?_))); (case side2 => exact HC0.out); rintro e w16 ⟨v213, rfl, ho0, hb⟩; refine ⟨_, rfl, ?_⟩; have n0_ := Aside0.mk (Kd.R_lower ho0 (below_size (by repeat (first | (with_reducible first | exact HB.out | apply below_alloc | apply pw_below_drewN | apply below_drew1) | exact HB.out)))); have n1_ := Aside0.mk (below_step (by repeat (first | (with_reducible first | exact HB.out | apply below_alloc | apply pw_below_drewN | apply below_drew1) | exact HB.out)) hb); clear HB; have HO214 := n0_; have HB := n1_; clear n0_ n1_; (try clear hb); (try clear hb2); (try clear hk); (try clear hi); (try clear ho0)))
          (try simp only [Act.put, List.setIfInBounds_toArray, List.set_cons_zero, List.set_cons_succ])
          go_cut [59] (fun v59 wc => ∃ (kq : Nat) (x59_14 : Bool), v59 = .bool x59_14 ∧ Aside0 (stepladderlaw14_SuperSize.j1 kq l0 a1 a2 a3 t211 x59_14 = some r) ∧ Aside0 (kq ≤ kj5) ∧ Aside0 (Kd.R (Kd.int .i64) 3 wc w.heap.size (fun _ => True) v213 t211) ∧ Aside0 (Below w.heap.size w wc))
          case first =>
            have H := HC15.out
            clear HC15
            by_cases c17 : a1 < 1
            · rw [if_pos c17] at H
              have c17b0 : decide (a1 < 1) = true := decide_eq_true c17
              clear c17
              (first | rw [c17b0] | (simp only [i64_w, i32_w]; rw [c17b0]) | skip)
              have H' := Aside0.mk H
              clear H
              go_wp2
              go_meet
              case rel => exact ⟨_, (true), (by first | rfl | (simp; done) | (simp [*]; done)), H', ⟨by have := HJ5.out; first | omega | exact Nat.le_refl _⟩, ⟨by (with_reducible repeat (first | apply Kd.R_alloc | apply Kd.R_drewN | apply Kd.R_drew)); exact HO214.out⟩, ⟨by repeat (first | (with_reducible first | exact HB.out | apply below_alloc | apply pw_below_drewN | apply below_drew1) | exact HB.out)⟩⟩
            · rw [if_neg c17] at H
              have c17b0 : decide (a1 < 1) = false := decide_eq_false c17
              clear c17
              (first | rw [c17b0] | (simp only [i64_w, i32_w]; rw [c17b0]) | skip)
              by_cases c18 : a2 < 1
              · rw [if_pos c18] at H
                have c18b0 : decide (a2 < 1) = true := decide_eq_true c18
                clear c18
                have H' := Aside0.mk H
                clear H
                go_wp2
                go_meet
                case rel => exact ⟨_, (true), (by first | rfl | (simp; done) | (simp [*]; done)), H', ⟨by have := HJ5.out; first | omega | exact Nat.le_refl _⟩, ⟨by (with_reducible repeat (first | apply Kd.R_alloc | apply Kd.R_drewN | apply Kd.R_drew)); exact HO214.out⟩, ⟨by repeat (first | (with_reducible first | exact HB.out | apply below_alloc | apply pw_below_drewN | apply below_drew1) | exact HB.out)⟩⟩
              · rw [if_neg c18] at H
                have c18b0 : decide (a2 < 1) = false := decide_eq_false c18
                clear c18
                have H' := Aside0.mk H
                clear H
                go_wp2
                go_meet
                case rel => exact ⟨_, (decide (a2 ≥ (l0.length : Int))), (by first | rfl | (simp; done) | (simp [*]; done)), H', ⟨by have := HJ5.out; first | omega | exact Nat.le_refl _⟩, ⟨by (with_reducible repeat (first | apply Kd.R_alloc | apply Kd.R_drewN | apply Kd.R_drew)); exact HO214.out⟩, ⟨by repeat (first | (with_reducible first | exact HB.out | apply below_alloc | apply pw_below_drewN | apply below_drew1) | exact HB.out)⟩⟩
          case rest =>
            clear HC15
            try clear c1
            try clear c2
            try clear p2
            try clear c8
            try clear c9
            try clear c9b0
            try clear c9b1
            try clear c10
            try clear c10b0
            try clear c11
            try clear c11b0
            try clear c12
            try clear c14
            try clear c17
            try clear c17b0
            try clear c18
            try clear c18b0
            try clear p2
            obtain ⟨kq, x59_14, rfl, HA, HJ14, HO_10, HB⟩ := hcut
            cases kq with
            | zero => exact absurd HA.out (by simp [stepladderlaw14_SuperSize.j1])
            | succ kj14 =>
              have H := HA.out
              clear HA
              simp only [stepladderlaw14_SuperSize.j1] at H
              by_cases c19 : x59_14 = true
              · subst c19
                have H1 : (some false) = some r := by rw [if_pos rfl] at H; exact H
                clear H
                have H := H1
                clear H1
                obtain rfl := Option.some.inj H
                go_wp2
                go_ret
                exact ⟨by first | rfl | (simp [errW_none, errW_some] <;> rfl) | (simp [*, errW_none, errW_some] <;> rfl), by repeat (first | (with_reducible first | exact HB.out | apply below_alloc | apply pw_below_drewN | apply below_drew1) | exact HB.out)⟩
              · replace c19 := Bool.eq_false_iff.mpr c19
                subst c19
                have H1 : ((super_Up.f kj14 l0 0 (wrap64 ((l0.length : Int) - a2)) (wrap64 (a3 + 1))).bind fun t215 => (if (t215.length : Int) ≥ a1 then (if 0 ≤ (wrap64 ((t215.length : Int) - a1)) then (if (wrap64 ((t215.length : Int) - a1)) < (t215.length : Int) then (stepladderlaw14_SuperSize.j2 kj14 l0 a1 a2 a3 t211 (rd t215 (wrap64 ((t215.length : Int) - a1)))) else (none)) else (none)) else (stepladderlaw14_SuperSize.j2 kj14 l0 a1 a2 a3 t211 0))) = some r := by rw [if_neg (show ¬ (false = true) by decide)] at H; exact H
                clear H
                have H := H1
                clear H1
                replace H := Option.bind_eq_some_iff.mp H
                obtain ⟨t215, A200, H⟩ := H
                replace H : (if (t215.length : Int) ≥ a1 then (if 0 ≤ (wrap64 ((t215.length : Int) - a1)) then (if (wrap64 ((t215.length : Int) - a1)) < (t215.length : Int) then (stepladderlaw14_SuperSize.j2 kj14 l0 a1 a2 a3 t211 (rd t215 (wrap64 ((t215.length : Int) - a1)))) else (none)) else (none)) else (stepladderlaw14_SuperSize.j2 kj14 l0 a1 a2 a3 t211 0)) = some r := H
                have A20 := Aside0.mk A200
                clear A200
                have HC21 := Aside0.mk H
                clear H
                go_upto_if 71 with (first | ((with_reducible refine gate_callee (f := 24) rfl ?_); refine goesL_ (some 67) rfl rfl Try.func24 (by kernel_rfl) rfl #[.slice A0 l0.length c0, .int .i64 0, .int .i64 (wrap64 ((l0.length : Int) - a2)), .int .i64 (wrap64 (a3 + 1))] rfl (by (try simp only [List.map_toArray, List.map_cons, List.map_nil]); first | done | rfl | (simp only [List.length_drop, List.length_take]; rfl)) ?_; (with_reducible refine (super_Up.calls kj14 _ _ l0 0 (wrap64 ((l0.length : Int) - a2)) (wrap64 (a3 + 1)) t215 _ ?side1 ?side2 A20.out).mono ?_); (case side1 => repeat (first | exact (Kd.C_below HR0.out HB.out) | (with_reducible refine Kd.C_alloc ?_ _) | (with_reducible refine Kd.C_drewN ?_ _) | (with_reducible refine Kd.C_drew ?_))); (case side2 => exact HC0.out); rintro e w22 ⟨v216, rfl, ho0, hb⟩; refine ⟨_, rfl, ?_⟩; have n0_ := Aside0.mk (Kd.R_elder' (by (with_reducible repeat (first | apply Kd.R_alloc | apply Kd.R_drewN | apply Kd.R_drew)); exact HO_10.out) (Kd.R_base ho0) hb); have n1_ := Aside0.mk (Kd.R_lower (Kd.R_new' ho0 (Kd.R_lt (by (with_reducible repeat (first | apply Kd.R_alloc | apply Kd.R_drewN | apply Kd.R_drew)); exact HO_10.out))) (below_size (by repeat (first | (with_reducible first | exact HB.out | apply below_alloc | apply pw_below_drewN | apply below_drew1) | exact HB.out)))); have n2_ := Aside0.mk (below_step (by repeat (first | (with_reducible first | exact HB.out | apply below_alloc | apply pw_below_drewN | apply below_drew1) | exact HB.out)) hb); clear HO_10; clear HB; have HO_10 := n0_; have HO217 := n1_; have HB := n2_; clear n0_ n1_ n2_; (try clear hb); (try clear hb2); (try clear hk); (try clear hi); (try clear ho0); obtain ⟨Ao23, co23, eo23⟩ := Kd.R_slice HO217.out; subst eo23))
                (try simp only [Act.put, List.setIfInBounds_toArray, List.set_cons_zero, List.set_cons_succ])
                go_cut [13] (fun v13 wc => ∃ (kq : Nat) (x13_20 : Int), v13 = .int .i64 x13_20 ∧ Aside0 (stepladderlaw14_SuperSize.j2 kq l0 a1 a2 a3 t211 x13_20 = some r) ∧ Aside0 (kq ≤ kj14) ∧ Aside0 (Kd.R (Kd.int .i64) 3 wc w.heap.size (fun _ => True) v213 t211) ∧ Aside0 (Below w.heap.size w wc))
                case first =>
                  have H := HC21.out
                  clear HC21
                  by_cases c24 : (t215.length : Int) ≥ a1
                  · rw [if_pos c24] at H
                    have c24b0 : decide (a1 ≤ (t215.length : Int)) = true := decide_eq_true c24
                    clear c24
                    (first | rw [c24b0] | (simp only [i64_w, i32_w]; rw [c24b0]) | skip)
                    obtain ⟨ji25, hji25⟩ : ∃ j_ : Int, (wrap64 ((t215.length : Int) - a1)) = j_ := ⟨_, rfl⟩
                    replace H : (if 0 ≤ (ji25) then (if (ji25) < (t215.length : Int) then (stepladderlaw14_SuperSize.j2 kj14 l0 a1 a2 a3 t211 (rd t215 (ji25))) else (none)) else (none)) = some r := by first | (rw [hji25] at H; exact H) | (simp only [hji25] at H ⊢; exact H)
                    have hji25w : (IntKind.i64.wrap ((t215.length : Int) - a1)) = ji25 := (i64_w _).trans hji25
                    by_cases c26 : 0 ≤ (ji25)
                    · rw [if_pos c26] at H
                      have c26b0 : decide (0 ≤ (ji25)) = true := decide_eq_true c26
                      clear c26
                      by_cases c27 : (ji25) < (t215.length : Int)
                      · rw [if_pos c27] at H
                        have c27b0 : decide ((ji25) < (t215.length : Int)) = true := decide_eq_true c27
                        clear c27
                        have H' := Aside0.mk H
                        clear H
                        have p218 : 0 ≤ ((ji25) : Int) := of_decide_eq_true (by first | (with_reducible assumption) | assumption)
                        have q218 : (ji25) < (t215.length : Int) := of_decide_eq_true (by first | (with_reducible assumption) | assumption)
                        obtain ⟨ad218, e218, hx218_0⟩ := Kd.at_int (Kd.R_reads' HO217.out).2.2 (ji25) p218 q218
                        cases e218
                        replace p218 := eq_true p218
                        replace q218 := eq_true q218
                        go_wp2
                        go_meet
                        case rel => exact ⟨_, (rd t215 (ji25)), (by first | rfl | (simp; done) | (simp only [← hji25] <;> (first | rfl | simp)) | (simp [*]; done)), H', ⟨by have := HJ5.out; have := HJ14.out; first | omega | exact Nat.le_refl _⟩, ⟨by (with_reducible repeat (first | apply Kd.R_alloc | apply Kd.R_drewN | apply Kd.R_drew)); exact Kd.R_mono HO_10.out (fun _ hk => trivial)⟩, ⟨by repeat (first | (with_reducible first | exact HB.out | apply below_alloc | apply pw_below_drewN | apply below_drew1) | exact HB.out)⟩⟩
                      · rw [if_neg c27] at H
                        exact absurd H (by simp)
                    · rw [if_neg c26] at H
                      exact absurd H (by simp)
                  · rw [if_neg c24] at H
                    have c24b0 : decide (a1 ≤ (t215.length : Int)) = false := decide_eq_false c24
                    clear c24
                    (first | rw [c24b0] | (simp only [i64_w, i32_w]; rw [c24b0]) | skip)
                    have H' := Aside0.mk H
                    clear H
                    go_wp2
                    go_meet
                    case rel => exact ⟨_, (0), (by first | rfl | (simp; done) | (simp [*]; done)), H', ⟨by have := HJ5.out; have := HJ14.out; first | omega | exact Nat.le_refl _⟩, ⟨by (with_reducible repeat (first | apply Kd.R_alloc | apply Kd.R_drewN | apply Kd.R_drew)); exact Kd.R_mono HO_10.out (fun _ hk => trivial)⟩, ⟨by repeat (first | (with_reducible first | exact HB.out | apply below_alloc | apply pw_below_drewN | apply below_drew1) | exact HB.out)⟩⟩
                case rest =>
                  clear HC21
                  try clear c1
                  try clear c2
                  try clear p2
                  try clear q2
                  try clear hx2
                  try clear p6
                  try clear c8
                  try clear c9
                  try clear c9b0
                  try clear c9b1
                  try clear c10
                  try clear c10b0
                  try clear c11
                  try clear c11b0
                  try clear c12
                  try clear c14
                  try clear c17
                  try clear c17b0
                  try clear c18
                  try clear c18b0
                  try clear c19
                  try clear p21
                  try clear q21
                  try clear hx21
                  try clear c22
                  try clear c23
                  try clear c24
                  try clear c24b0
                  try clear c26
                  try clear c26b0
                  try clear c27
                  try clear c27b0
                  try clear hx218_0
                  try clear p2
                  try clear p218
                  try clear q218
                  obtain ⟨kq, x13_20, rfl, HA, HJ20, HO_10, HB⟩ := hcut
                  cases kq with
                  | zero => exact absurd HA.out (by simp [stepladderlaw14_SuperSize.j2])
                  | succ kj20 =>
                    have H := HA.out
                    clear HA
                    simp only [stepladderlaw14_SuperSize.j2] at H
                    by_cases c28 : x13_20 < 0
                    · rw [if_pos c28] at H
                      have c28b0 : decide (x13_20 < 0) = true := decide_eq_true c28
                      clear c28
                      obtain rfl := Option.some.inj H
                      go_wp2
                      go_ret
                      exact ⟨by first | rfl | (simp [errW_none, errW_some] <;> rfl) | (simp [*, errW_none, errW_some] <;> rfl), by repeat (first | (with_reducible first | exact HB.out | apply below_alloc | apply pw_below_drewN | apply below_drew1) | exact HB.out)⟩
                    · rw [if_neg c28] at H
                      have c28b0 : decide (x13_20 < 0) = false := decide_eq_false c28
                      clear c28
                      have H' := Aside0.mk H
                      clear H
                      go_wp2
                      go_loopg [14, 15] kj20 (fun kq v14 v15 w' => ∃ (x14_4 : Int) (x15_4 : Int), v14 = .int .i64 x14_4 ∧ v15 = .int .i64 x15_4 ∧ Aside0 (stepladderlaw14_SuperSize.l0 kq l0 a1 a2 a3 t211 x13_20 x14_4 x15_4 = some r) ∧ Aside0 (kq ≤ kj20) ∧ Aside0 (Kd.R (Kd.int .i64) 3 w' w.heap.size (fun _ => True) v213 t211) ∧ Aside0 (Below w.heap.size w w'))
                      case atStart => exact ⟨(0), (0), (by first | rfl | (simp; done) | (simp [*]; done)), (by first | rfl | (simp; done) | (simp [*]; done)), H', ⟨Nat.le_refl _⟩, ⟨by (with_reducible repeat (first | apply Kd.R_alloc | apply Kd.R_drewN | apply Kd.R_drew)); exact HO_10.out⟩, ⟨by repeat (first | (with_reducible first | exact HB.out | apply below_alloc | apply pw_below_drewN | apply below_drew1) | exact HB.out)⟩⟩
                      case round =>
                        clear H'
                        try clear c1
                        try clear c2
                        try clear p2
                        try clear q2
                        try clear hx2
                        try clear p6
                        try clear c8
                        try clear c9
                        try clear c9b0
                        try clear c9b1
                        try clear c10
                        try clear c10b0
                        try clear c11
                        try clear c11b0
                        try clear c12
                        try clear c14
                        try clear c17
                        try clear c17b0
                        try clear c18
                        try clear c18b0
                        try clear c19
                        try clear p21
                        try clear q21
                        try clear hx21
                        try clear c22
                        try clear c23
                        try clear c24
                        try clear c24b0
                        try clear c26
                        try clear c26b0
                        try clear c27
                        try clear c27b0
                        try clear c28
                        try clear c28b0
                        try clear hx218_0
                        try clear p2
                        try clear p21
                        try clear p218
                        try clear p6
                        try clear q2
                        try clear q21
                        try clear q218
                        obtain ⟨x14_4, x15_4, rfl, rfl, HA, HK4, HO_10, HB⟩ := hrel
                        cases gk with
                        | zero => exact absurd HA.out (by simp [stepladderlaw14_SuperSize.l0])
                        | succ k4 =>
                          have H := HA.out
                          clear HA
                          simp only [stepladderlaw14_SuperSize.l0] at H
                          by_cases c29 : x15_4 < (t211.length : Int)
                          · rw [if_pos c29] at H
                            have c29b0 : decide (x15_4 < (t211.length : Int)) = true := decide_eq_true c29
                            clear c29
                            have HC30 := Aside0.mk H
                            clear H
                            obtain ⟨Ao31, co31, eo31⟩ := Kd.R_slice HO_10.out
                            subst eo31
                            go_upto_region 19 with (fail)
                            go_cut [100] (fun v100 wc => ∃ (kq : Nat) (x100_29 : Bool), v100 = .bool x100_29 ∧ Aside0 (stepladderlaw14_SuperSize.j4 kq l0 a1 a2 a3 t211 x13_20 x14_4 x15_4 x100_29 = some r) ∧ Aside0 (kq ≤ k4) ∧ Aside0 (Kd.R (Kd.int .i64) 3 wc w.heap.size (fun _ => True) (.slice Ao31 t211.length co31) t211) ∧ Aside0 (Below w.heap.size w wc))
                            case first =>
                              have H := HC30.out
                              clear HC30
                              by_cases c32 : 0 ≤ x15_4
                              · rw [if_pos c32] at H
                                have c32b0 : decide (0 ≤ x15_4) = true := decide_eq_true c32
                                clear c32
                                (first | rw [c32b0] | (simp only [i64_w, i32_w]; rw [c32b0]) | skip)
                                by_cases c33 : (rd t211 x15_4) < 0
                                · rw [if_pos c33] at H
                                  have c33b0 : decide ((rd t211 x15_4) < 0) = true := decide_eq_true c33
                                  clear c33
                                  have H' := Aside0.mk H
                                  clear H
                                  have p219 : 0 ≤ (x15_4 : Int) := of_decide_eq_true (by first | (with_reducible assumption) | assumption)
                                  have q219 : x15_4 < (t211.length : Int) := of_decide_eq_true (by first | (with_reducible assumption) | assumption)
                                  obtain ⟨ad219, e219, hx219_0⟩ := Kd.at_int (Kd.R_reads' HO_10.out).2.2 x15_4 p219 q219
                                  cases e219
                                  replace p219 := eq_true p219
                                  replace q219 := eq_true q219
                                  go_wp2
                                  go_meet
                                  case rel => exact ⟨_, (true), (by first | rfl | (simp; done) | (simp [*]; done)), H', ⟨by have := HJ5.out; have := HJ14.out; have := HJ20.out; have := HK4.out; first | omega | exact Nat.le_refl _⟩, ⟨by (with_reducible repeat (first | apply Kd.R_alloc | apply Kd.R_drewN | apply Kd.R_drew)); exact HO_10.out⟩, ⟨by repeat (first | (with_reducible first | exact HB.out | apply below_alloc | apply pw_below_drewN | apply below_drew1) | exact HB.out)⟩⟩
                                · rw [if_neg c33] at H
                                  have c33b0 : decide ((rd t211 x15_4) < 0) = false := decide_eq_false c33
                                  clear c33
                                  have H' := Aside0.mk H
                                  clear H
                                  have p219 : 0 ≤ (x15_4 : Int) := of_decide_eq_true (by first | (with_reducible assumption) | assumption)
                                  have q219 : x15_4 < (t211.length : Int) := of_decide_eq_true (by first | (with_reducible assumption) | assumption)
                                  obtain ⟨ad219, e219, hx219_0⟩ := Kd.at_int (Kd.R_reads' HO_10.out).2.2 x15_4 p219 q219
                                  cases e219
                                  replace p219 := eq_true p219
                                  replace q219 := eq_true q219
                                  have p220 : 0 ≤ (x15_4 : Int) := of_decide_eq_true (by first | (with_reducible assumption) | assumption)
                                  have q220 : x15_4 < (t211.length : Int) := of_decide_eq_true (by first | (with_reducible assumption) | assumption)
                                  obtain ⟨ad220, e220, hx220_0⟩ := Kd.at_int (Kd.R_reads' HO_10.out).2.2 x15_4 p220 q220
                                  obtain rfl : ad219 = ad220 := (by injection e220)
                                  replace p220 := eq_true p220
                                  replace q220 := eq_true q220
                                  go_wp2
                                  go_meet
                                  case rel => exact ⟨_, (decide ((rd t211 x15_4) ≥ (l0.length : Int))), (by first | rfl | (simp; done) | (simp [*]; done)), H', ⟨by have := HJ5.out; have := HJ14.out; have := HJ20.out; have := HK4.out; first | omega | exact Nat.le_refl _⟩, ⟨by (with_reducible repeat (first | apply Kd.R_alloc | apply Kd.R_drewN | apply Kd.R_drew)); exact HO_10.out⟩, ⟨by repeat (first | (with_reducible first | exact HB.out | apply below_alloc | apply pw_below_drewN | apply below_drew1) | exact HB.out)⟩⟩
                              · rw [if_neg c32] at H
                                exact absurd H (by simp)
                            case rest =>
                              clear HC30
                              try clear c1
                              try clear c2
                              try clear p2
                              try clear q2
                              try clear hx2
                              try clear c3
                              try clear p6
                              try clear c8
                              try clear c9
                              try clear c9b0
                              try clear c9b1
                              try clear c10
                              try clear c10b0
                              try clear c11
                              try clear c11b0
                              try clear c12
                              try clear c14
                              try clear c17
                              try clear c17b0
                              try clear c18
                              try clear c18b0
                              try clear c19
                              try clear p21
                              try clear q21
                              try clear hx21
                              try clear c22
                              try clear p22
                              try clear q22
                              try clear hx22
                              try clear c23
                              try clear c24
                              try clear c24b0
                              try clear c26
                              try clear c26b0
                              try clear c27
                              try clear c27b0
                              try clear c28
                              try clear c28b0
                              try clear c29
                              try clear c29b0
                              try clear c32
                              try clear c32b0
                              try clear c33
                              try clear c33b0
                              try clear hx218_0
                              try clear hx219_0
                              try clear hx220_0
                              try clear p2
                              try clear p21
                              try clear p218
                              try clear p219
                              try clear p220
                              try clear p6
                              try clear q2
                              try clear q21
                              try clear q218
                              try clear q219
                              try clear q220
                              obtain ⟨kq, x100_29, rfl, HA, HJ29, HO_10, HB⟩ := hcut
                              cases kq with
                              | zero => exact absurd HA.out (by simp [stepladderlaw14_SuperSize.j4])
                              | succ kj29 =>
                                have H := HA.out
                                clear HA
                                simp only [stepladderlaw14_SuperSize.j4] at H
                                by_cases c34 : x100_29 = true
                                · subst c34
                                  have H1 : (some false) = some r := by rw [if_pos rfl] at H; exact H
                                  clear H
                                  have H := H1
                                  clear H1
                                  obtain rfl := Option.some.inj H
                                  go_wp2
                                  go_ret
                                  exact ⟨by first | rfl | (simp [errW_none, errW_some] <;> rfl) | (simp [*, errW_none, errW_some] <;> rfl), by repeat (first | (with_reducible first | exact HB.out | apply below_alloc | apply pw_below_drewN | apply below_drew1) | exact HB.out)⟩
                                · replace c34 := Bool.eq_false_iff.mpr c34
                                  subst c34
                                  have H1 : (if 0 ≤ x15_4 then (if x15_4 < (t211.length : Int) then (if 0 ≤ (rd t211 x15_4) then (if (rd t211 x15_4) < (l0.length : Int) then (if (rd l0 (rd t211 x15_4)) = a3 then (stepladderlaw14_SuperSize.l0 kj29 l0 a1 a2 a3 t211 x13_20 (wrap64 (x14_4 + 1)) (wrap64 (x15_4 + 1))) else (stepladderlaw14_SuperSize.l0 kj29 l0 a1 a2 a3 t211 x13_20 x14_4 (wrap64 (x15_4 + 1)))) else (none)) else (none)) else (none)) else (none)) = some r := by rw [if_neg (show ¬ (false = true) by decide)] at H; exact H
                                  clear H
                                  have H := H1
                                  clear H1
                                  by_cases c35 : 0 ≤ x15_4
                                  · rw [if_pos c35] at H
                                    have c35b0 : decide (0 ≤ x15_4) = true := decide_eq_true c35
                                    clear c35
                                    by_cases c36 : x15_4 < (t211.length : Int)
                                    · rw [if_pos c36] at H
                                      have c36b0 : decide (x15_4 < (t211.length : Int)) = true := decide_eq_true c36
                                      clear c36
                                      by_cases c37 : 0 ≤ (rd t211 x15_4)
                                      · rw [if_pos c37] at H
                                        have c37b0 : decide (0 ≤ (rd t211 x15_4)) = true := decide_eq_true c37
                                        clear c37
                                        by_cases c38 : (rd t211 x15_4) < (l0.length : Int)
                                        · rw [if_pos c38] at H
                                          have c38b0 : decide ((rd t211 x15_4) < (l0.length : Int)) = true := decide_eq_true c38
                                          clear c38
                                          by_cases c39 : (rd l0 (rd t211 x15_4)) = a3
                                          · rw [if_pos c39] at H
                                            have c39b0 : ((rd l0 (rd t211 x15_4)) == a3) = true := beq_iff_eq.mpr c39
                                            have c39b1 : ((rd l0 (rd t211 x15_4)) != a3) = false := bne_eq_false_iff_eq.mpr c39
                                            clear c39
                                            have H' := Aside0.mk H
                                            clear H
                                            have p221 : 0 ≤ (x15_4 : Int) := of_decide_eq_true (by first | (with_reducible assumption) | assumption)
                                            have q221 : x15_4 < (t211.length : Int) := of_decide_eq_true (by first | (with_reducible assumption) | assumption)
                                            obtain ⟨ad221, e221, hx221_0⟩ := Kd.at_int (Kd.R_reads' HO_10.out).2.2 x15_4 p221 q221
                                            cases e221
                                            replace p221 := eq_true p221
                                            replace q221 := eq_true q221
                                            have p222 : 0 ≤ ((rd t211 x15_4) : Int) := of_decide_eq_true (by first | (with_reducible assumption) | assumption)
                                            have q222 : (rd t211 x15_4) < (l0.length : Int) := of_decide_eq_true (by first | (with_reducible assumption) | assumption)
                                            obtain ⟨ad222, e222, hx222_0⟩ := Kd.at_int HR0.out (rd t211 x15_4) p222 q222
                                            cases e222
                                            replace hx222_0 := (HB.out.cell (World.block_lt_of_cell? w _ hx222_0)).trans hx222_0
                                            replace p222 := eq_true p222
                                            replace q222 := eq_true q222
                                            go_wp2
                                            go_roundg kj29
                                            case measure => have := HJ5.out; have := HJ14.out; have := HJ20.out; have := HK4.out; have := HJ29.out; omega
                                            case rel => exact ⟨(wrap64 (x14_4 + 1)), (wrap64 (x15_4 + 1)), (by first | rfl | (simp; done) | (simp [*]; done)), (by first | rfl | (simp; done) | (simp [*]; done)), H', ⟨by have := HJ5.out; have := HJ14.out; have := HJ20.out; have := HK4.out; have := HJ29.out; omega⟩, ⟨by (with_reducible repeat (first | apply Kd.R_alloc | apply Kd.R_drewN | apply Kd.R_drew)); exact HO_10.out⟩, ⟨by repeat (first | (with_reducible first | exact HB.out | apply below_alloc | apply pw_below_drewN | apply below_drew1) | exact HB.out)⟩⟩
                                          · rw [if_neg c39] at H
                                            have c39b0 : ((rd l0 (rd t211 x15_4)) == a3) = false := beq_eq_false_iff_ne.mpr c39
                                            have c39b1 : ((rd l0 (rd t211 x15_4)) != a3) = true := bne_iff_ne.mpr c39
                                            have H' := Aside0.mk H
                                            clear H
                                            have p221 : 0 ≤ (x15_4 : Int) := of_decide_eq_true (by first | (with_reducible assumption) | assumption)
                                            have q221 : x15_4 < (t211.length : Int) := of_decide_eq_true (by first | (with_reducible assumption) | assumption)
                                            obtain ⟨ad221, e221, hx221_0⟩ := Kd.at_int (Kd.R_reads' HO_10.out).2.2 x15_4 p221 q221
                                            cases e221
                                            replace p221 := eq_true p221
                                            replace q221 := eq_true q221
                                            have p222 : 0 ≤ ((rd t211 x15_4) : Int) := of_decide_eq_true (by first | (with_reducible assumption) | assumption)
                                            have q222 : (rd t211 x15_4) < (l0.length : Int) := of_decide_eq_true (by first | (with_reducible assumption) | assumption)
                                            obtain ⟨ad222, e222, hx222_0⟩ := Kd.at_int HR0.out (rd t211 x15_4) p222 q222
                                            cases e222
                                            replace hx222_0 := (HB.out.cell (World.block_lt_of_cell? w _ hx222_0)).trans hx222_0
                                            replace p222 := eq_true p222
                                            replace q222 := eq_true q222
                                            go_wp2
                                            go_roundg kj29
                                            case measure => have := HJ5.out; have := HJ14.out; have := HJ20.out; have := HK4.out; have := HJ29.out; omega
                                            case rel => exact ⟨(x14_4), (wrap64 (x15_4 + 1)), (by first | rfl | (simp; done) | (simp [*]; done)), (by first | rfl | (simp; done) | (simp [*]; done)), H', ⟨by have := HJ5.out; have := HJ14.out; have := HJ20.out; have := HK4.out; have := HJ29.out; omega⟩, ⟨by (with_reducible repeat (first | apply Kd.R_alloc | apply Kd.R_drewN | apply Kd.R_drew)); exact HO_10.out⟩, ⟨by repeat (first | (with_reducible first | exact HB.out | apply below_alloc | apply pw_below_drewN | apply below_drew1) | exact HB.out)⟩⟩
                                        · rw [if_neg c38] at H
                                          exact absurd H (by simp)
                                      · rw [if_neg c37] at H
                                        exact absurd H (by simp)
                                    · rw [if_neg c36] at H
                                      exact absurd H (by simp)
                                  · rw [if_neg c35] at H
                                    exact absurd H (by simp)
                          · rw [if_neg c29] at H
                            have c29b0 : decide (x15_4 < (t211.length : Int)) = false := decide_eq_false c29
                            clear c29
                            have H' := Aside0.mk H
                            clear H
                            obtain ⟨Ao40, co40, eo40⟩ := Kd.R_slice HO_10.out
                            subst eo40
                            go_wp2
                            go_loopg [16, 17] k4 (fun kq v16 v17 w' => ∃ (x16_5 : Int) (x17_5 : Int), v16 = .int .i64 x16_5 ∧ v17 = .int .i64 x17_5 ∧ Aside0 (stepladderlaw14_SuperSize.l1 kq l0 a1 a2 a3 x13_20 x14_4 x16_5 x17_5 = some r) ∧ Aside0 (kq ≤ k4) ∧ Aside0 (Below w.heap.size w w'))
                            case atStart => exact ⟨(0), (x13_20), (by first | rfl | (simp; done) | (simp [*]; done)), (by first | rfl | (simp; done) | (simp [*]; done)), H', ⟨Nat.le_refl _⟩, ⟨by repeat (first | (with_reducible first | exact HB.out | apply below_alloc | apply pw_below_drewN | apply below_drew1) | exact HB.out)⟩⟩
                            case round =>
                              clear H'
                              try clear c1
                              try clear c2
                              try clear p2
                              try clear q2
                              try clear hx2
                              try clear c3
                              try clear p6
                              try clear c8
                              try clear c9
                              try clear c9b0
                              try clear c9b1
                              try clear c10
                              try clear c10b0
                              try clear c11
                              try clear c11b0
                              try clear c12
                              try clear c14
                              try clear c17
                              try clear c17b0
                              try clear c18
                              try clear c18b0
                              try clear c19
                              try clear p21
                              try clear q21
                              try clear hx21
                              try clear c22
                              try clear p22
                              try clear q22
                              try clear hx22
                              try clear c23
                              try clear c24
                              try clear c24b0
                              try clear c26
                              try clear c26b0
                              try clear c27
                              try clear c27b0
                              try clear c28
                              try clear c28b0
                              try clear c29
                              try clear c29b0
                              try clear c32
                              try clear c32b0
                              try clear c33
                              try clear c33b0
                              try clear c34
                              try clear c35
                              try clear c35b0
                              try clear c36
                              try clear c36b0
                              try clear c37
                              try clear c37b0
                              try clear c38
                              try clear c38b0
                              try clear c39
                              try clear c39b0
                              try clear c39b1
                              try clear hx218_0
                              try clear hx219_0
                              try clear hx220_0
                              try clear hx221_0
                              try clear hx222_0
                              try clear p2
                              try clear p21
                              try clear p218
                              try clear p219
                              try clear p22
                              try clear p220
                              try clear p221
                              try clear p222
                              try clear p6
                              try clear q2
                              try clear q21
                              try clear q218
                              try clear q219
                              try clear q22
                              try clear q220
                              try clear q221
                              try clear q222
                              obtain ⟨x16_5, x17_5, rfl, rfl, HA, HK5, HB⟩ := hrel
                              cases gk with
                              | zero => exact absurd HA.out (by simp [stepladderlaw14_SuperSize.l1])
                              | succ k5 =>
                                have H := HA.out
                                clear HA
                                simp only [stepladderlaw14_SuperSize.l1] at H
                                by_cases c41 : x17_5 < (wrap64 ((l0.length : Int) - a2))
                                · rw [if_pos c41] at H
                                  have c41b0 : decide (x17_5 < (wrap64 ((l0.length : Int) - a2))) = true := decide_eq_true c41
                                  clear c41
                                  by_cases c42 : 0 ≤ x17_5
                                  · rw [if_pos c42] at H
                                    have c42b0 : decide (0 ≤ x17_5) = true := decide_eq_true c42
                                    clear c42
                                    by_cases c43 : x17_5 < (l0.length : Int)
                                    · rw [if_pos c43] at H
                                      have c43b0 : decide (x17_5 < (l0.length : Int)) = true := decide_eq_true c43
                                      clear c43
                                      by_cases c44 : (rd l0 x17_5) = a3
                                      · rw [if_pos c44] at H
                                        have c44b0 : ((rd l0 x17_5) == a3) = true := beq_iff_eq.mpr c44
                                        have c44b1 : ((rd l0 x17_5) != a3) = false := bne_eq_false_iff_eq.mpr c44
                                        clear c44
                                        have H' := Aside0.mk H
                                        clear H
                                        have p223 : 0 ≤ (x17_5 : Int) := of_decide_eq_true (by first | (with_reducible assumption) | assumption)
                                        have q223 : x17_5 < (l0.length : Int) := of_decide_eq_true (by first | (with_reducible assumption) | assumption)
                                        obtain ⟨ad223, e223, hx223_0⟩ := Kd.at_int HR0.out x17_5 p223 q223
                                        cases e223
                                        replace hx223_0 := (HB.out.cell (World.block_lt_of_cell? w _ hx223_0)).trans hx223_0
                                        replace p223 := eq_true p223
                                        replace q223 := eq_true q223
                                        go_wp2
                                        go_roundg k5
                                        case measure => have := HJ5.out; have := HJ14.out; have := HJ20.out; have := HK4.out; have := HK5.out; omega
                                        case rel => exact ⟨(wrap64 (x16_5 + 1)), (wrap64 (x17_5 + 1)), (by first | rfl | (simp; done) | (simp [*]; done)), (by first | rfl | (simp; done) | (simp [*]; done)), H', ⟨by have := HJ5.out; have := HJ14.out; have := HJ20.out; have := HK4.out; have := HK5.out; omega⟩, ⟨by repeat (first | (with_reducible first | exact HB.out | apply below_alloc | apply pw_below_drewN | apply below_drew1) | exact HB.out)⟩⟩
                                      · rw [if_neg c44] at H
                                        have c44b0 : ((rd l0 x17_5) == a3) = false := beq_eq_false_iff_ne.mpr c44
                                        have c44b1 : ((rd l0 x17_5) != a3) = true := bne_iff_ne.mpr c44
                                        have H' := Aside0.mk H
                                        clear H
                                        have p223 : 0 ≤ (x17_5 : Int) := of_decide_eq_true (by first | (with_reducible assumption) | assumption)
                                        have q223 : x17_5 < (l0.length : Int) := of_decide_eq_true (by first | (with_reducible assumption) | assumption)
                                        obtain ⟨ad223, e223, hx223_0⟩ := Kd.at_int HR0.out x17_5 p223 q223
                                        cases e223
                                        replace hx223_0 := (HB.out.cell (World.block_lt_of_cell? w _ hx223_0)).trans hx223_0
                                        replace p223 := eq_true p223
                                        replace q223 := eq_true q223
                                        go_wp2
                                        go_roundg k5
                                        case measure => have := HJ5.out; have := HJ14.out; have := HJ20.out; have := HK4.out; have := HK5.out; omega
                                        case rel => exact ⟨(x16_5), (wrap64 (x17_5 + 1)), (by first | rfl | (simp; done) | (simp [*]; done)), (by first | rfl | (simp; done) | (simp [*]; done)), H', ⟨by have := HJ5.out; have := HJ14.out; have := HJ20.out; have := HK4.out; have := HK5.out; omega⟩, ⟨by repeat (first | (with_reducible first | exact HB.out | apply below_alloc | apply pw_below_drewN | apply below_drew1) | exact HB.out)⟩⟩
                                    · rw [if_neg c43] at H
                                      exact absurd H (by simp)
                                  · rw [if_neg c42] at H
                                    exact absurd H (by simp)
                                · rw [if_neg c41] at H
                                  have c41b0 : decide (x17_5 < (wrap64 ((l0.length : Int) - a2))) = false := decide_eq_false c41
                                  clear c41
                                  by_cases c45 : x14_4 = x16_5
                                  · rw [if_pos c45] at H
                                    have c45b0 : (x14_4 == x16_5) = true := beq_iff_eq.mpr c45
                                    have c45b1 : (x14_4 != x16_5) = false := bne_eq_false_iff_eq.mpr c45
                                    clear c45
                                    replace H := Option.bind_eq_some_iff.mp H
                                    obtain ⟨t224, A460, H⟩ := H
                                    replace H : (some (t224 == x13_20)) = some r := H
                                    have A46 := Aside0.mk A460
                                    clear A460
                                    obtain rfl := Option.some.inj H
                                    go_wp2_with (first | (go_at_call 26; (with_reducible refine (super_From.calls _ _ l0 a1 a2 a3 t224 _ ?side1 ?side2 A46.out).mono ?_); (case side1 => repeat (first | exact (Kd.C_below HR0.out HB.out) | (with_reducible refine Kd.C_alloc ?_ _) | (with_reducible refine Kd.C_drewN ?_ _) | (with_reducible refine Kd.C_drew ?_))); (case side2 => exact HC0.out); rintro e w47 ⟨rfl, hb⟩; have n0_ := Aside0.mk (below_step (by repeat (first | (with_reducible first | exact HB.out | apply below_alloc | apply pw_below_drewN | apply below_drew1) | exact HB.out)) hb); clear HB; have HB := n0_; clear n0_; (try clear hb); (try clear hb2); (try clear hk); (try clear hi)))
                                    go_ret
                                    exact ⟨by first | rfl | (simp [errW_none, errW_some] <;> rfl) | (simp [*, errW_none, errW_some] <;> rfl), by repeat (first | (with_reducible first | exact HB.out | apply below_alloc | apply pw_below_drewN | apply below_drew1) | exact HB.out)⟩
                                  · rw [if_neg c45] at H
                                    have c45b0 : (x14_4 == x16_5) = false := beq_eq_false_iff_ne.mpr c45
                                    have c45b1 : (x14_4 != x16_5) = true := bne_iff_ne.mpr c45
                                    obtain rfl := Option.some.inj H
                                    go_wp2
                                    go_ret
                                    exact ⟨by first | rfl | (simp [errW_none, errW_some] <;> rfl) | (simp [*, errW_none, errW_some] <;> rfl), by repeat (first | (with_reducible first | exact HB.out | apply below_alloc | apply pw_below_drewN | apply below_drew1) | exact HB.out)⟩
        · replace c14 := Bool.eq_false_iff.mpr c14
          subst c14
          have H1 : (some true) = some r := by rw [if_neg (show ¬ (false = true) by decide)] at H; exact H
          clear H
          have H := H1
          clear H1
          obtain rfl := Option.some.inj H
          go_wp2_with (first | ((with_reducible refine gate_callee (f := 23) rfl ?_); refine goesL_ (some 43) rfl rfl Try.func23 (by kernel_rfl) rfl #[.slice A0 l0.length c0, .int .i64 a1, .int .i64 a2] rfl (by (try simp only [List.map_toArray, List.map_cons, List.map_nil]); first | done | rfl | (simp only [List.length_drop, List.length_take]; rfl)) ?_; (with_reducible refine (super_Prefix.calls _ _ l0 a1 a2 t211 false _ ?side1 ?side2 A13.out).mono ?_); (case side1 => repeat (first | exact (Kd.C_below HR0.out HB.out) | (with_reducible refine Kd.C_alloc ?_ _) | (with_reducible refine Kd.C_drewN ?_ _) | (with_reducible refine Kd.C_drew ?_))); (case side2 => exact HC0.out); rintro e w48 ⟨v213, rfl, ho0, hb⟩; refine ⟨_, rfl, ?_⟩; have n0_ := Aside0.mk (Kd.R_lower ho0 (below_size (by repeat (first | (with_reducible first | exact HB.out | apply below_alloc | apply pw_below_drewN | apply below_drew1) | exact HB.out)))); have n1_ := Aside0.mk (below_step (by repeat (first | (with_reducible first | exact HB.out | apply below_alloc | apply pw_below_drewN | apply below_drew1) | exact HB.out)) hb); clear HB; have HO214 := n0_; have HB := n1_; clear n0_ n1_; (try clear hb); (try clear hb2); (try clear hk); (try clear hi); (try clear ho0)))
          go_ret
          exact ⟨by first | rfl | (simp [errW_none, errW_some] <;> rfl) | (simp [*, errW_none, errW_some] <;> rfl), by repeat (first | (with_reducible first | exact HB.out | apply below_alloc | apply pw_below_drewN | apply below_drew1) | exact HB.out)⟩

/-- THE ONE PURE STATEMENT of stepladderlaw14_SuperSize: yours. -/
def stepladderlaw14_SuperSize.Pure : Prop := ∀ (l0 : List Int) (a1 : Int) (a2 : Int) (a3 : Int), l0.length ≤ maxLen → l0.length * 8 ≤ 140737488351232 → (∀ x ∈ l0, (Lit.int .i64 x).wf = true) → (Lit.int .i64 a1).wf = true → (Lit.int .i64 a2).wf = true → (Lit.int .i64 a3).wf = true → ∃ k, stepladderlaw14_SuperSize.f k l0 a1 a2 a3 = some true
theorem stepladderlaw14_SuperSize.walk (P : stepladderlaw14_SuperSize.Pure) (a0 : Option Addr) (len0 cap0 : Nat) (z0 : List Int) (a1 : Int) (a2 : Int) (a3 : Int) (w : World) (w0 : (a0 = none ∧ len0 = 0 ∧ cap0 = 0 ∧ z0 = []) ∨ ∃ x, a0 = some x ∧ len0 ≤ cap0 ∧ cap0 ≤ maxLen ∧ z0.length = cap0 ∧ (∀ i, i < z0.length → w.cell? (x.add i) = some (.int .i64 (z0.getD i 0))) ∧ ∀ n ∈ z0, (Lit.int .i64 n).wf = true) (y0 : len0 * 8 ≤ 140737488351232) (w1 : (Lit.int .i64 a1).wf = true) (w2 : (Lit.int .i64 a2).wf = true) (w3 : (Lit.int .i64 a3).wf = true) :
    Calls Try.prog 9 #[.slice a0 len0 cap0, .int .i64 a1, .int .i64 a2, .int .i64 a3] w fun e w' => e = .returned (.bool true) ∧ Below w.heap.size w w' := by
  obtain ⟨l0, rfl, hr0, hm0, hw0, hc0⟩ := ReadsInt.ofRowC w0
  obtain ⟨k, h⟩ := P l0 a1 a2 a3 hm0 y0 hw0 w1 w2 w3
  refine (stepladderlaw14_SuperSize.calls k _ _ l0 a1 a2 a3 true w (Kd.C_of_reads (d := (0 : Int)) (h1 := fun _ => rfl) hr0) hc0 h).mono ?_
  rintro e w' ⟨rfl, hd⟩
  exact ⟨rfl, hd⟩

end Go.Proofs.Ytfbhgbnpppbiiaa.X
