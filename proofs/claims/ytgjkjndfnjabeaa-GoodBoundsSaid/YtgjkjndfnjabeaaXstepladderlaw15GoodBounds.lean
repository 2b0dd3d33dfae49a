-- By this session's own program (wip/tools/xprint.py), over the kit's print. Not trusted: Lean checks it.
import Derived.Test.YtgjkjndfnjabeaaX0
import Derived.Test.YtgjkjndfnjabeaaXgoodGood
import Derived.Test.YtgjkjndfnjabeaaXgoodCount
import Derived.Test.YtgjkjndfnjabeaaXstepladderlaw15awake
import Derived.Test.YtgjkjndfnjabeaaXsuperPrefix
namespace Go.Proofs.Ytgjkjndfnjabeaa.X
open Go.RowKit Go.Proofs.YtgjkjndfnjabeaaW.PrintWords Go.Proofs.YtgjkjndfnjabeaaW.PrintLast Go.Proofs.YtgjkjndfnjabeaaW.PrintMore
attribute [local go_sem] max2_int min2_int max_two min_two max_three min_three max_four min_four   -- for this text's walks alone
set_option linter.unusedVariables false
set_option linter.unusedSimpArgs false

/-! ### stepladderlaw15_GoodBounds: function 3 -/
mutual
def stepladderlaw15_GoodBounds.j0 : Nat → List Int → Int → Int → Int → Bool → Bool → Option (Bool)
  | 0, _, _, _, _, _, _ => none
  | k + 1, x0, x1, x2, x3, x9, x33 => if x33 = true then (some x9) else ((super_Prefix.f x0 x1 x2).bind fun bt125 => (if bt125.2 = true then (if x1 < 1 then (stepladderlaw15_GoodBounds.j1 k x0 x1 x2 x3 bt125.1 bt125.2 true) else (if x2 < 1 then (stepladderlaw15_GoodBounds.j1 k x0 x1 x2 x3 bt125.1 bt125.2 true) else (stepladderlaw15_GoodBounds.j1 k x0 x1 x2 x3 bt125.1 bt125.2 (decide (x2 ≥ (x0.length : Int)))))) else (stepladderlaw15_GoodBounds.j1 k x0 x1 x2 x3 bt125.1 bt125.2 false)))
def stepladderlaw15_GoodBounds.j1 : Nat → List Int → Int → Int → Int → List Int → Bool → Bool → Option (Bool)
  | 0, _, _, _, _, _, _, _ => none
  | k + 1, x0, x1, x2, x3, x10, x11, x56 => if x56 = true then (some false) else (if x11 = true then (if 0 ≤ (wrap64 ((x0.length : Int) - x2)) then (if (wrap64 ((x0.length : Int) - x2)) ≤ (x0.length : Int) then ((good_Good.f (x0.take ((wrap64 ((x0.length : Int) - x2)) : Int).toNat) x1).bind fun t130 => (if t130 = true then ((good_Count.f k (x0.take ((wrap64 ((x0.length : Int) - x2)) : Int).toNat) 0 (wrap64 (x3 + 1))).bind fun t132 => (stepladderlaw15_GoodBounds.j2 k x0 x1 x3 x10 (decide (t132 < x1)))) else (stepladderlaw15_GoodBounds.j2 k x0 x1 x3 x10 true))) else (none)) else (none)) else (stepladderlaw15_GoodBounds.j2 k x0 x1 x3 x10 true))
def stepladderlaw15_GoodBounds.j2 : Nat → List Int → Int → Int → List Int → Bool → Option (Bool)
  | 0, _, _, _, _, _ => none
  | k + 1, x0, x1, x3, x10, x82 => if x82 = true then (some true) else (stepladderlaw15_GoodBounds.l0 k x0 x1 x3 x10 0 0)
def stepladderlaw15_GoodBounds.l0 : Nat → List Int → Int → Int → List Int → Int → Int → Option (Bool)
  | 0, _, _, _, _, _, _ => none
  | k + 1, x0, x1, x3, x10, x12, x13 => if x13 < (x10.length : Int) then (if 0 ≤ x13 then (if (rd x10 x13) < 0 then (stepladderlaw15_GoodBounds.j4 k x0 x1 x3 x10 x12 x13 true) else (stepladderlaw15_GoodBounds.j4 k x0 x1 x3 x10 x12 x13 (decide ((rd x10 x13) ≥ (x0.length : Int))))) else (none)) else (some (decide (x12 < (wrap64 (4 * x1)))))
def stepladderlaw15_GoodBounds.j4 : Nat → List Int → Int → Int → List Int → Int → Int → Bool → Option (Bool)
  | 0, _, _, _, _, _, _, _ => none
  | k + 1, x0, x1, x3, x10, x12, x13, x102 => if x102 = true then (some false) else (if 0 ≤ x13 then (if x13 < (x10.length : Int) then (if 0 ≤ (rd x10 x13) then (if (rd x10 x13) < (x0.length : Int) then (if (rd x0 (rd x10 x13)) = x3 then (stepladderlaw15_GoodBounds.l0 k x0 x1 x3 x10 (wrap64 (x12 + 1)) (wrap64 (x13 + 1))) else (stepladderlaw15_GoodBounds.l0 k x0 x1 x3 x10 x12 (wrap64 (x13 + 1)))) else (none)) else (none)) else (none)) else (none))
end
def stepladderlaw15_GoodBounds.f (k : Nat) (l0 : List Int) (a1 : Int) (a2 : Int) (a3 : Int) : Option (Bool) := (stepladderlaw15_awake.f k).bind fun t124 => (if t124 = true then (if (l0.length : Int) > 210 then (stepladderlaw15_GoodBounds.j0 k l0 a1 a2 a3 t124 true) else (if a3 < 0 then (stepladderlaw15_GoodBounds.j0 k l0 a1 a2 a3 t124 true) else (if a3 > 30 then (stepladderlaw15_GoodBounds.j0 k l0 a1 a2 a3 t124 true) else (stepladderlaw15_GoodBounds.j0 k l0 a1 a2 a3 t124 (decide (a1 > 1000)))))) else (stepladderlaw15_GoodBounds.j0 k l0 a1 a2 a3 t124 true))
theorem stepladderlaw15_GoodBounds.mono_l : ∀ k, (∀ y0 y1 y2 y3 y4 y5, LeO (stepladderlaw15_GoodBounds.j0 k y0 y1 y2 y3 y4 y5) (stepladderlaw15_GoodBounds.j0 (k + 1) y0 y1 y2 y3 y4 y5)) ∧ (∀ y0 y1 y2 y3 y4 y5 y6, LeO (stepladderlaw15_GoodBounds.j1 k y0 y1 y2 y3 y4 y5 y6) (stepladderlaw15_GoodBounds.j1 (k + 1) y0 y1 y2 y3 y4 y5 y6)) ∧ (∀ y0 y1 y2 y3 y4, LeO (stepladderlaw15_GoodBounds.j2 k y0 y1 y2 y3 y4) (stepladderlaw15_GoodBounds.j2 (k + 1) y0 y1 y2 y3 y4)) ∧ (∀ y0 y1 y2 y3 y4 y5, LeO (stepladderlaw15_GoodBounds.l0 k y0 y1 y2 y3 y4 y5) (stepladderlaw15_GoodBounds.l0 (k + 1) y0 y1 y2 y3 y4 y5)) ∧ (∀ y0 y1 y2 y3 y4 y5 y6, LeO (stepladderlaw15_GoodBounds.j4 k y0 y1 y2 y3 y4 y5 y6) (stepladderlaw15_GoodBounds.j4 (k + 1) y0 y1 y2 y3 y4 y5 y6))
  | 0 => ⟨fun _ _ _ _ _ _ r h => by simp [stepladderlaw15_GoodBounds.j0] at h, fun _ _ _ _ _ _ _ r h => by simp [stepladderlaw15_GoodBounds.j1] at h, fun _ _ _ _ _ r h => by simp [stepladderlaw15_GoodBounds.j2] at h, fun _ _ _ _ _ _ r h => by simp [stepladderlaw15_GoodBounds.l0] at h, fun _ _ _ _ _ _ _ r h => by simp [stepladderlaw15_GoodBounds.j4] at h⟩
  | k + 1 => by
    obtain ⟨ih0, ih1, ih2, ih3, ih4⟩ := stepladderlaw15_GoodBounds.mono_l k
    refine ⟨?_, ?_, ?_, ?_, ?_⟩
    · intro y0 y1 y2 y3 y4 y5
      unfold stepladderlaw15_GoodBounds.j0
      repeat' first
      | (with_reducible exact ih0 _ _ _ _ _ _)
      | (with_reducible exact ih1 _ _ _ _ _ _ _)
      | (with_reducible exact ih2 _ _ _ _ _)
      | (with_reducible exact ih3 _ _ _ _ _ _)
      | (with_reducible exact ih4 _ _ _ _ _ _ _)
      | (with_reducible exact good_Count.mono _ _ _ _)
      | (with_reducible exact stepladderlaw15_awake.mono _)
      | (with_reducible exact LeO.refl _)
      | (with_reducible exact LeO.none _)
      | (with_reducible refine LeO.ite ?_ ?_)
      | (with_reducible refine LeO.bind ?_ (fun _ => ?_))
      | exact ih0 _ _ _ _ _ _
      | exact ih1 _ _ _ _ _ _ _
      | exact ih2 _ _ _ _ _
      | exact ih3 _ _ _ _ _ _
      | exact ih4 _ _ _ _ _ _ _
      | exact good_Count.mono _ _ _ _
      | exact stepladderlaw15_awake.mono _
      | exact LeO.none _
      | refine LeO.ite ?_ ?_
      | refine LeO.bind ?_ (fun _ => ?_)
    · intro y0 y1 y2 y3 y4 y5 y6
      unfold stepladderlaw15_GoodBounds.j1
      repeat' first
      | (with_reducible exact ih0 _ _ _ _ _ _)
      | (with_reducible exact ih1 _ _ _ _ _ _ _)
      | (with_reducible exact ih2 _ _ _ _ _)
      | (with_reducible exact ih3 _ _ _ _ _ _)
      | (with_reducible exact ih4 _ _ _ _ _ _ _)
      | (with_reducible exact good_Count.mono _ _ _ _)
      | (with_reducible exact stepladderlaw15_awake.mono _)
      | (with_reducible exact LeO.refl _)
      | (with_reducible exact LeO.none _)
      | (with_reducible refine LeO.ite ?_ ?_)
      | (with_reducible refine LeO.bind ?_ (fun _ => ?_))
      | exact ih0 _ _ _ _ _ _
      | exact ih1 _ _ _ _ _ _ _
      | exact ih2 _ _ _ _ _
      | exact ih3 _ _ _ _ _ _
      | exact ih4 _ _ _ _ _ _ _
      | exact good_Count.mono _ _ _ _
      | exact stepladderlaw15_awake.mono _
      | exact LeO.none _
      | refine LeO.ite ?_ ?_
      | refine LeO.bind ?_ (fun _ => ?_)
    · intro y0 y1 y2 y3 y4
      unfold stepladderlaw15_GoodBounds.j2
      repeat' first
      | (with_reducible exact ih0 _ _ _ _ _ _)
      | (with_reducible exact ih1 _ _ _ _ _ _ _)
      | (with_reducible exact ih2 _ _ _ _ _)
      | (with_reducible exact ih3 _ _ _ _ _ _)
      | (with_reducible exact ih4 _ _ _ _ _ _ _)
      | (with_reducible exact good_Count.mono _ _ _ _)
      | (with_reducible exact stepladderlaw15_awake.mono _)
      | (with_reducible exact LeO.refl _)
      | (with_reducible exact LeO.none _)
      | (with_reducible refine LeO.ite ?_ ?_)
      | (with_reducible refine LeO.bind ?_ (fun _ => ?_))
      | exact ih0 _ _ _ _ _ _
      | exact ih1 _ _ _ _ _ _ _
      | exact ih2 _ _ _ _ _
      | exact ih3 _ _ _ _ _ _
      | exact ih4 _ _ _ _ _ _ _
      | exact good_Count.mono _ _ _ _
      | exact stepladderlaw15_awake.mono _
      | exact LeO.none _
      | refine LeO.ite ?_ ?_
      | refine LeO.bind ?_ (fun _ => ?_)
    · intro y0 y1 y2 y3 y4 y5
      unfold stepladderlaw15_GoodBounds.l0
      repeat' first
      | (with_reducible exact ih0 _ _ _ _ _ _)
      | (with_reducible exact ih1 _ _ _ _ _ _ _)
      | (with_reducible exact ih2 _ _ _ _ _)
      | (with_reducible exact ih3 _ _ _ _ _ _)
      | (with_reducible exact ih4 _ _ _ _ _ _ _)
      | (with_reducible exact good_Count.mono _ _ _ _)
      | (with_reducible exact stepladderlaw15_awake.mono _)
      | (with_reducible exact LeO.refl _)
      | (with_reducible exact LeO.none _)
      | (with_reducible refine LeO.ite ?_ ?_)
      | (with_reducible refine LeO.bind ?_ (fun _ => ?_))
      | exact ih0 _ _ _ _ _ _
      | exact ih1 _ _ _ _ _ _ _
      | exact ih2 _ _ _ _ _
      | exact ih3 _ _ _ _ _ _
      | exact ih4 _ _ _ _ _ _ _
      | exact good_Count.mono _ _ _ _
      | exact stepladderlaw15_awake.mono _
      | exact LeO.none _
      | refine LeO.ite ?_ ?_
      | refine LeO.bind ?_ (fun _ => ?_)
    · intro y0 y1 y2 y3 y4 y5 y6
      unfold stepladderlaw15_GoodBounds.j4
      repeat' first
      | (with_reducible exact ih0 _ _ _ _ _ _)
      | (with_reducible exact ih1 _ _ _ _ _ _ _)
      | (with_reducible exact ih2 _ _ _ _ _)
      | (with_reducible exact ih3 _ _ _ _ _ _)
      | (with_reducible exact ih4 _ _ _ _ _ _ _)
      | (with_reducible exact good_Count.mono _ _ _ _)
      | (with_reducible exact stepladderlaw15_awake.mono _)
      | (with_reducible exact LeO.refl _)
      | (with_reducible exact LeO.none _)
      | (with_reducible refine LeO.ite ?_ ?_)
      | (with_reducible refine LeO.bind ?_ (fun _ => ?_))
      | exact ih0 _ _ _ _ _ _
      | exact ih1 _ _ _ _ _ _ _
      | exact ih2 _ _ _ _ _
      | exact ih3 _ _ _ _ _ _
      | exact ih4 _ _ _ _ _ _ _
      | exact good_Count.mono _ _ _ _
      | exact stepladderlaw15_awake.mono _
      | exact LeO.none _
      | refine LeO.ite ?_ ?_
      | refine LeO.bind ?_ (fun _ => ?_)
theorem stepladderlaw15_GoodBounds.mono : ∀ a0 a1 a2 a3 k, LeO (stepladderlaw15_GoodBounds.f k a0 a1 a2 a3) (stepladderlaw15_GoodBounds.f (k + 1) a0 a1 a2 a3) := by
  intro a0 a1 a2 a3 k
  obtain ⟨ih0, ih1, ih2, ih3, ih4⟩ := stepladderlaw15_GoodBounds.mono_l k
  unfold stepladderlaw15_GoodBounds.f
  repeat' first
      | (with_reducible exact ih0 _ _ _ _ _ _)
      | (with_reducible exact ih1 _ _ _ _ _ _ _)
      | (with_reducible exact ih2 _ _ _ _ _)
      | (with_reducible exact ih3 _ _ _ _ _ _)
      | (with_reducible exact ih4 _ _ _ _ _ _ _)
      | (with_reducible exact good_Count.mono _ _ _ _)
      | (with_reducible exact stepladderlaw15_awake.mono _)
      | (with_reducible exact LeO.refl _)
      | (with_reducible exact LeO.none _)
      | (with_reducible refine LeO.ite ?_ ?_)
      | (with_reducible refine LeO.bind ?_ (fun _ => ?_))
      | exact ih0 _ _ _ _ _ _
      | exact ih1 _ _ _ _ _ _ _
      | exact ih2 _ _ _ _ _
      | exact ih3 _ _ _ _ _ _
      | exact ih4 _ _ _ _ _ _ _
      | exact good_Count.mono _ _ _ _
      | exact stepladderlaw15_awake.mono _
      | exact LeO.none _
      | refine LeO.ite ?_ ?_
      | refine LeO.bind ?_ (fun _ => ?_)
set_option maxHeartbeats 8000000 in
set_option maxRecDepth 100000 in
theorem stepladderlaw15_GoodBounds.calls (k : Nat) (A0 : Option Addr) (c0 : Nat) (l0 : List Int) (a1 : Int) (a2 : Int) (a3 : Int) (r : Bool) (w : World) (hr0 : Kd.C (Kd.int .i64) w A0 l0.length l0) (hc0 : l0.length ≤ c0) (h : stepladderlaw15_GoodBounds.f k l0 a1 a2 a3 = some r) :
    Calls Try.prog 3 #[.slice A0 l0.length c0, .int .i64 a1, .int .i64 a2, .int .i64 a3] w fun e w' => e = .returned (.bool r) ∧ Below w.heap.size w w' := by
  have HR0 := Aside0.mk hr0
  have HC0 := Aside0.mk hc0
  clear hr0 hc0
  have HB := Aside0.mk (Below.refl w.heap.size w)
  have H : ((stepladderlaw15_awake.f k).bind fun t124 => (if t124 = true then (if (l0.length : Int) > 210 then (stepladderlaw15_GoodBounds.j0 k l0 a1 a2 a3 t124 true) else (if a3 < 0 then (stepladderlaw15_GoodBounds.j0 k l0 a1 a2 a3 t124 true) else (if a3 > 30 then (stepladderlaw15_GoodBounds.j0 k l0 a1 a2 a3 t124 true) else (stepladderlaw15_GoodBounds.j0 k l0 a1 a2 a3 t124 (decide (a1 > 1000)))))) else (stepladderlaw15_GoodBounds.j0 k l0 a1 a2 a3 t124 true))) = some r := h
  clear h
  replace H := Option.bind_eq_some_iff.mp H
  obtain ⟨t124, A50, H⟩ := H
  replace H : (if t124 = true then (if (l0.length : Int) > 210 then (stepladderlaw15_GoodBounds.j0 k l0 a1 a2 a3 t124 true) else (if a3 < 0 then (stepladderlaw15_GoodBounds.j0 k l0 a1 a2 a3 t124 true) else (if a3 > 30 then (stepladderlaw15_GoodBounds.j0 k l0 a1 a2 a3 t124 true) else (stepladderlaw15_GoodBounds.j0 k l0 a1 a2 a3 t124 (decide (a1 > 1000)))))) else (stepladderlaw15_GoodBounds.j0 k l0 a1 a2 a3 t124 true)) = some r := H
  have A5 := Aside0.mk A50
  clear A50
  have HC6 := Aside0.mk H
  clear H
  go_enter Try.func3, Try.ntmps3
  go_upto_region 2 with (first | ((with_reducible refine gate_callee (f := 11) rfl ?_); refine goesL_ (some 14) rfl rfl Try.func11 (by kernel_rfl) rfl #[] rfl (by (try simp only [List.map_toArray, List.map_cons, List.map_nil]); first | done | rfl | (simp only [List.length_drop, List.length_take]; rfl)) ?_; (with_reducible refine (stepladderlaw15_awake.calls k  t124 _ A5.out).mono ?_); rintro e w7 ⟨rfl, hb⟩; refine ⟨_, rfl, ?_⟩; have n0_ := Aside0.mk (below_step (by repeat (first | (with_reducible first | exact HB.out | apply below_alloc | apply pw_below_drewN | apply below_drew1) | exact HB.out)) hb); clear HB; have HB := n0_; clear n0_; (try clear hb); (try clear hb2); (try clear hk); (try clear hi)))
  (try simp only [Act.put, List.setIfInBounds_toArray, List.set_cons_zero, List.set_cons_succ])
  go_cut [33] (fun v33 wc => ∃ (kq : Nat) (x33_5 : Bool), v33 = .bool x33_5 ∧ Aside0 (stepladderlaw15_GoodBounds.j0 kq l0 a1 a2 a3 t124 x33_5 = some r) ∧ Aside0 (kq ≤ k) ∧ Aside0 (Below w.heap.size w wc))
  case first =>
    have H := HC6.out
    clear HC6
    by_cases c8 : t124 = true
    · subst c8
      have H1 : (if (l0.length : Int) > 210 then (stepladderlaw15_GoodBounds.j0 k l0 a1 a2 a3 true true) else (if a3 < 0 then (stepladderlaw15_GoodBounds.j0 k l0 a1 a2 a3 true true) else (if a3 > 30 then (stepladderlaw15_GoodBounds.j0 k l0 a1 a2 a3 true true) else (stepladderlaw15_GoodBounds.j0 k l0 a1 a2 a3 true (decide (a1 > 1000)))))) = some r := by rw [if_pos rfl] at H; exact H
      clear H
      have H := H1
      clear H1
      by_cases c9 : (l0.length : Int) > 210
      · rw [if_pos c9] at H
        have c9b0 : decide (210 < (l0.length : Int)) = true := decide_eq_true c9
        have c9b1 : decide (210 < l0.length) = true := decide_eq_true (by omega)
        clear c9
        (first | rw [c9b0] | (simp only [i64_w, i32_w]; rw [c9b0]) | skip)
        have H' := Aside0.mk H
        clear H
        go_wp2
        go_meet
        case rel => exact ⟨_, (true), (by first | rfl | (simp; done) | (simp [*]; done)), H', ⟨by first | omega | exact Nat.le_refl _⟩, ⟨by repeat (first | (with_reducible first | exact HB.out | apply below_alloc | apply pw_below_drewN | apply below_drew1) | exact HB.out)⟩⟩
      · rw [if_neg c9] at H
        have c9b0 : decide (210 < (l0.length : Int)) = false := decide_eq_false c9
        have c9b1 : decide (210 < l0.length) = false := decide_eq_false (by omega)
        clear c9
        (first | rw [c9b0] | (simp only [i64_w, i32_w]; rw [c9b0]) | skip)
        by_cases c10 : a3 < 0
        · rw [if_pos c10] at H
          have c10b0 : decide (a3 < 0) = true := decide_eq_true c10
          clear c10
          have H' := Aside0.mk H
          clear H
          go_wp2
          go_meet
          case rel => exact ⟨_, (true), (by first | rfl | (simp; done) | (simp [*]; done)), H', ⟨by first | omega | exact Nat.le_refl _⟩, ⟨by repeat (first | (with_reducible first | exact HB.out | apply below_alloc | apply pw_below_drewN | apply below_drew1) | exact HB.out)⟩⟩
        · rw [if_neg c10] at H
          have c10b0 : decide (a3 < 0) = false := decide_eq_false c10
          clear c10
          by_cases c11 : a3 > 30
          · rw [if_pos c11] at H
            have c11b0 : decide (30 < a3) = true := decide_eq_true c11
            clear c11
            have H' := Aside0.mk H
            clear H
            go_wp2
            go_meet
            case rel => exact ⟨_, (true), (by first | rfl | (simp; done) | (simp [*]; done)), H', ⟨by first | omega | exact Nat.le_refl _⟩, ⟨by repeat (first | (with_reducible first | exact HB.out | apply below_alloc | apply pw_below_drewN | apply below_drew1) | exact HB.out)⟩⟩
          · rw [if_neg c11] at H
            have c11b0 : decide (30 < a3) = false := decide_eq_false c11
            clear c11
            have H' := Aside0.mk H
            clear H
            go_wp2
            go_meet
            case rel => exact ⟨_, (decide (a1 > 1000)), (by first | rfl | (simp; done) | (simp [*]; done)), H', ⟨by first | omega | exact Nat.le_refl _⟩, ⟨by repeat (first | (with_reducible first | exact HB.out | apply below_alloc | apply pw_below_drewN | apply below_drew1) | exact HB.out)⟩⟩
    · replace c8 := Bool.eq_false_iff.mpr c8
      subst c8
      have H1 : (stepladderlaw15_GoodBounds.j0 k l0 a1 a2 a3 false true) = some r := by rw [if_neg (show ¬ (false = true) by decide)] at H; exact H
      clear H
      have H := H1
      clear H1
      have H' := Aside0.mk H
      clear H
      go_wp2
      go_meet
      case rel => exact ⟨_, (true), (by first | rfl | (simp; done) | (simp [*]; done)), H', ⟨by first | omega | exact Nat.le_refl _⟩, ⟨by repeat (first | (with_reducible first | exact HB.out | apply below_alloc | apply pw_below_drewN | apply below_drew1) | exact HB.out)⟩⟩
  case rest =>
    clear HC6
    try clear c1
    try clear p2
    try clear c3
    try clear c8
    try clear c9
    try clear c9b0
    try clear c9b1
    try clear c10
    try clear c10b0
    try clear c11
    try clear c11b0
    obtain ⟨kq, x33_5, rfl, HA, HJ5, HB⟩ := hcut
    cases kq with
    | zero => exact absurd HA.out (by simp [stepladderlaw15_GoodBounds.j0])
    | succ kj5 =>
      have H := HA.out
      clear HA
      simp only [stepladderlaw15_GoodBounds.j0] at H
      by_cases c12 : x33_5 = true
      · subst c12
        have H1 : (some t124) = some r := by rw [if_pos rfl] at H; exact H
        clear H
        have H := H1
        clear H1
        obtain rfl := Option.some.inj H
        go_wp2
        go_ret
        exact ⟨by first | rfl | (simp [errW_none, errW_some] <;> rfl) | (simp [*, errW_none, errW_some] <;> rfl), by repeat (first | (with_reducible first | exact HB.out | apply below_alloc | apply pw_below_drewN | apply below_drew1) | exact HB.out)⟩
      · replace c12 := Bool.eq_false_iff.mpr c12
        subst c12
        have H1 : ((super_Prefix.f l0 a1 a2).bind fun bt125 => (if bt125.2 = true then (if a1 < 1 then (stepladderlaw15_GoodBounds.j1 kj5 l0 a1 a2 a3 bt125.1 bt125.2 true) else (if a2 < 1 then (stepladderlaw15_GoodBounds.j1 kj5 l0 a1 a2 a3 bt125.1 bt125.2 true) else (stepladderlaw15_GoodBounds.j1 kj5 l0 a1 a2 a3 bt125.1 bt125.2 (decide (a2 ≥ (l0.length : Int)))))) else (stepladderlaw15_GoodBounds.j1 kj5 l0 a1 a2 a3 bt125.1 bt125.2 false))) = some r := by rw [if_neg (show ¬ (false = true) by decide)] at H; exact H
        clear H
        have H := H1
        clear H1
        replace H := Option.bind_eq_some_iff.mp H
        obtain ⟨⟨t125, t126⟩, A130, H⟩ := H
        replace H : (if t126 = true then (if a1 < 1 then (stepladderlaw15_GoodBounds.j1 kj5 l0 a1 a2 a3 t125 t126 true) else (if a2 < 1 then (stepladderlaw15_GoodBounds.j1 kj5 l0 a1 a2 a3 t125 t126 true) else (stepladderlaw15_GoodBounds.j1 kj5 l0 a1 a2 a3 t125 t126 (decide (a2 ≥ (l0.length : Int)))))) else (stepladderlaw15_GoodBounds.j1 kj5 l0 a1 a2 a3 t125 t126 false)) = some r := H
        have A13 := Aside0.mk A130
        clear A130
        have HC14 := Aside0.mk H
        clear H
        go_upto_region 5 with (first | ((with_reducible refine gate_callee (f := 12) rfl ?_); refine goesL_ (some 39) rfl rfl Try.func12 (by kernel_rfl) rfl #[.slice A0 l0.length c0, .int .i64 a1, .int .i64 a2] rfl (by (try simp only [List.map_toArray, List.map_cons, List.map_nil]); first | done | rfl | (simp only [List.length_drop, List.length_take]; rfl)) ?_; (with_reducible refine (super_Prefix.calls _ _ l0 a1 a2 t125 t126 _ ?side1 ?side2 A13.out).mono ?_); (case side1 => repeat (first | exact (Kd.C_below HR0.out HB.out) | (with_reducible refine Kd.C_alloc ?_ _) | (with_reducible refine Kd.C_drewN ?_ _) | (with_reducible refine Kd.C_drew ?_))); (case side2 => exact HC0.out); rintro e w15 ⟨v127, rfl, ho0, hb⟩; refine ⟨_, rfl, ?_⟩; have n0_ := Aside0.mk (Kd.R_lower ho0 (below_size (by repeat (first | (with_reducible first | exact HB.out | apply below_alloc | apply pw_below_drewN | apply below_drew1) | exact HB.out)))); have n1_ := Aside0.mk (below_step (by repeat (first | (with_reducible first | exact HB.out | apply below_alloc | apply pw_below_drewN | apply below_drew1) | exact HB.out)) hb); clear HB; have HO128 := n0_; have HB := n1_; clear n0_ n1_; (try clear hb); (try clear hb2); (try clear hk); (try clear hi); (try clear ho0)))
        (try simp only [Act.put, List.setIfInBounds_toArray, List.set_cons_zero, List.set_cons_succ])
        go_cut [56] (fun v56 wc => ∃ (kq : Nat) (x56_13 : Bool), v56 = .bool x56_13 ∧ Aside0 (stepladderlaw15_GoodBounds.j1 kq l0 a1 a2 a3 t125 t126 x56_13 = some r) ∧ Aside0 (kq ≤ kj5) ∧ Aside0 (Kd.R (Kd.int .i64) 3 wc w.heap.size (fun _ => True) v127 t125) ∧ Aside0 (Below w.heap.size w wc))
        case first =>
          have H := HC14.out
          clear HC14
          by_cases c16 : t126 = true
          · subst c16
            have H1 : (if a1 < 1 then (stepladderlaw15_GoodBounds.j1 kj5 l0 a1 a2 a3 t125 true true) else (if a2 < 1 then (stepladderlaw15_GoodBounds.j1 kj5 l0 a1 a2 a3 t125 true true) else (stepladderlaw15_GoodBounds.j1 kj5 l0 a1 a2 a3 t125 true (decide (a2 ≥ (l0.length : Int)))))) = some r := by rw [if_pos rfl] at H; exact H
            clear H
            have H := H1
            clear H1
            by_cases c17 : a1 < 1
            · rw [if_pos c17] at H
              have c17b0 : decide (a1 < 1) = true := decide_eq_true c17
              clear c17
              (first | rw [c17b0] | (simp only [i64_w, i32_w]; rw [c17b0]) | skip)
              have H' := Aside0.mk H
              clear H
              go_wp2
              go_meet
              case rel => exact ⟨_, (true), (by first | rfl | (simp; done) | (simp [*]; done)), H', ⟨by have := HJ5.out; first | omega | exact Nat.le_refl _⟩, ⟨by (with_reducible repeat (first | apply Kd.R_alloc | apply Kd.R_drewN | apply Kd.R_drew)); exact HO128.out⟩, ⟨by repeat (first | (with_reducible first | exact HB.out | apply below_alloc | apply pw_below_drewN | apply below_drew1) | exact HB.out)⟩⟩
            · rw [if_neg c17] at H
              have c17b0 : decide (a1 < 1) = false := decide_eq_false c17
              clear c17
              (first | rw [c17b0] | (simp only [i64_w, i32_w]; rw [c17b0]) | skip)
              by_cases c18 : a2 < 1
              · rw [if_pos c18] at H
                have c18b0 : decide (a2 < 1) = true := decide_eq_true c18
                clear c18
                have H' := Aside0.mk H
                clear H
                go_wp2
                go_meet
                case rel => exact ⟨_, (true), (by first | rfl | (simp; done) | (simp [*]; done)), H', ⟨by have := HJ5.out; first | omega | exact Nat.le_refl _⟩, ⟨by (with_reducible repeat (first | apply Kd.R_alloc | apply Kd.R_drewN | apply Kd.R_drew)); exact HO128.out⟩, ⟨by repeat (first | (with_reducible first | exact HB.out | apply below_alloc | apply pw_below_drewN | apply below_drew1) | exact HB.out)⟩⟩
              · rw [if_neg c18] at H
                have c18b0 : decide (a2 < 1) = false := decide_eq_false c18
                clear c18
                have H' := Aside0.mk H
                clear H
                go_wp2
                go_meet
                case rel => exact ⟨_, (decide (a2 ≥ (l0.length : Int))), (by first | rfl | (simp; done) | (simp [*]; done)), H', ⟨by have := HJ5.out; first | omega | exact Nat.le_refl _⟩, ⟨by (with_reducible repeat (first | apply Kd.R_alloc | apply Kd.R_drewN | apply Kd.R_drew)); exact HO128.out⟩, ⟨by repeat (first | (with_reducible first | exact HB.out | apply below_alloc | apply pw_below_drewN | apply below_drew1) | exact HB.out)⟩⟩
          · replace c16 := Bool.eq_false_iff.mpr c16
            subst c16
            have H1 : (stepladderlaw15_GoodBounds.j1 kj5 l0 a1 a2 a3 t125 false false) = some r := by rw [if_neg (show ¬ (false = true) by decide)] at H; exact H
            clear H
            have H := H1
            clear H1
            have H' := Aside0.mk H
            clear H
            go_wp2
            go_meet
            case rel => exact ⟨_, (false), (by first | rfl | (simp; done) | (simp [*]; done)), H', ⟨by have := HJ5.out; first | omega | exact Nat.le_refl _⟩, ⟨by (with_reducible repeat (first | apply Kd.R_alloc | apply Kd.R_drewN | apply Kd.R_drew)); exact HO128.out⟩, ⟨by repeat (first | (with_reducible first | exact HB.out | apply below_alloc | apply pw_below_drewN | apply below_drew1) | exact HB.out)⟩⟩
        case rest =>
          clear HC14
          try clear c1
          try clear p2
          try clear c3
          try clear c8
          try clear c9
          try clear c9b0
          try clear c9b1
          try clear c10
          try clear c10b0
          try clear c11
          try clear c11b0
          try clear c12
          try clear c16
          try clear c17
          try clear c17b0
          try clear c18
          try clear c18b0
          try clear p2
          obtain ⟨kq, x56_13, rfl, HA, HJ13, HO_10, HB⟩ := hcut
          cases kq with
          | zero => exact absurd HA.out (by simp [stepladderlaw15_GoodBounds.j1])
          | succ kj13 =>
            have H := HA.out
            clear HA
            simp only [stepladderlaw15_GoodBounds.j1] at H
            by_cases c19 : x56_13 = true
            · subst c19
              have H1 : (some false) = some r := by rw [if_pos rfl] at H; exact H
              clear H
              have H := H1
              clear H1
              obtain rfl := Option.some.inj H
              go_wp2
              go_ret
              exact ⟨by first | rfl | (simp [errW_none, errW_some] <;> rfl) | (simp [*, errW_none, errW_some] <;> rfl), by repeat (first | (with_reducible first | exact HB.out | apply below_alloc | apply pw_below_drewN | apply below_drew1) | exact HB.out)⟩
            · replace c19 := Bool.eq_false_iff.mpr c19
              subst c19
              have H1 : (if t126 = true then (if 0 ≤ (wrap64 ((l0.length : Int) - a2)) then (if (wrap64 ((l0.length : Int) - a2)) ≤ (l0.length : Int) then ((good_Good.f (l0.take ((wrap64 ((l0.length : Int) - a2)) : Int).toNat) a1).bind fun t130 => (if t130 = true then ((good_Count.f kj13 (l0.take ((wrap64 ((l0.length : Int) - a2)) : Int).toNat) 0 (wrap64 (a3 + 1))).bind fun t132 => (stepladderlaw15_GoodBounds.j2 kj13 l0 a1 a3 t125 (decide (t132 < a1)))) else (stepladderlaw15_GoodBounds.j2 kj13 l0 a1 a3 t125 true))) else (none)) else (none)) else (stepladderlaw15_GoodBounds.j2 kj13 l0 a1 a3 t125 true)) = some r := by rw [if_neg (show ¬ (false = true) by decide)] at H; exact H
              clear H
              have H := H1
              clear H1
              have HC20 := Aside0.mk H
              clear H
              go_upto_region 7 with (fail)
              go_cut [82] (fun v82 wc => ∃ (kq : Nat) (x82_19 : Bool), v82 = .bool x82_19 ∧ Aside0 (stepladderlaw15_GoodBounds.j2 kq l0 a1 a3 t125 x82_19 = some r) ∧ Aside0 (kq ≤ kj13) ∧ Aside0 (Kd.R (Kd.int .i64) 3 wc w.heap.size (fun _ => True) v127 t125) ∧ Aside0 (Below w.heap.size w wc))
              case first =>
                have H := HC20.out
                clear HC20
                by_cases c21 : t126 = true
                · subst c21
                  have H1 : (if 0 ≤ (wrap64 ((l0.length : Int) - a2)) then (if (wrap64 ((l0.length : Int) - a2)) ≤ (l0.length : Int) then ((good_Good.f (l0.take ((wrap64 ((l0.length : Int) - a2)) : Int).toNat) a1).bind fun t130 => (if t130 = true then ((good_Count.f kj13 (l0.take ((wrap64 ((l0.length : Int) - a2)) : Int).toNat) 0 (wrap64 (a3 + 1))).bind fun t132 => (stepladderlaw15_GoodBounds.j2 kj13 l0 a1 a3 t125 (decide (t132 < a1)))) else (stepladderlaw15_GoodBounds.j2 kj13 l0 a1 a3 t125 true))) else (none)) else (none)) = some r := by rw [if_pos rfl] at H; exact H
                  clear H
                  have H := H1
                  clear H1
                  obtain ⟨ji22, hji22⟩ : ∃ j_ : Int, (wrap64 ((l0.length : Int) - a2)) = j_ := ⟨_, rfl⟩
                  replace H : (if 0 ≤ (ji22) then (if (ji22) ≤ (l0.length : Int) then ((good_Good.f (l0.take ((ji22) : Int).toNat) a1).bind fun t130 => (if t130 = true then ((good_Count.f kj13 (l0.take ((ji22) : Int).toNat) 0 (wrap64 (a3 + 1))).bind fun t132 => (stepladderlaw15_GoodBounds.j2 kj13 l0 a1 a3 t125 (decide (t132 < a1)))) else (stepladderlaw15_GoodBounds.j2 kj13 l0 a1 a3 t125 true))) else (none)) else (none)) = some r := by first | (rw [hji22] at H; exact H) | (simp only [hji22] at H ⊢; exact H)
                  have hji22w : (IntKind.i64.wrap ((l0.length : Int) - a2)) = ji22 := (i64_w _).trans hji22
                  by_cases c23 : 0 ≤ (ji22)
                  · rw [if_pos c23] at H
                    have c23b0 := eq_true c23
                    have c23b1 : decide (0 ≤ (ji22)) = true := decide_eq_true c23
                    clear c23
                    by_cases c24 : (ji22) ≤ (l0.length : Int)
                    · rw [if_pos c24] at H
                      have c24b0 := eq_true c24
                      have c24b1 : decide ((ji22) ≤ (l0.length : Int)) = true := decide_eq_true c24
                      clear c24
                      replace H := Option.bind_eq_some_iff.mp H
                      obtain ⟨t130, A250, H⟩ := H
                      replace H : (if t130 = true then ((good_Count.f kj13 (l0.take ((ji22) : Int).toNat) 0 (wrap64 (a3 + 1))).bind fun t132 => (stepladderlaw15_GoodBounds.j2 kj13 l0 a1 a3 t125 (decide (t132 < a1)))) else (stepladderlaw15_GoodBounds.j2 kj13 l0 a1 a3 t125 true)) = some r := H
                      have A25 := Aside0.mk A250
                      clear A250
                      by_cases c26 : t130 = true
                      · subst c26
                        have H1 : ((good_Count.f kj13 (l0.take ((ji22) : Int).toNat) 0 (wrap64 (a3 + 1))).bind fun t132 => (stepladderlaw15_GoodBounds.j2 kj13 l0 a1 a3 t125 (decide (t132 < a1)))) = some r := by rw [if_pos rfl] at H; exact H
                        clear H
                        have H := H1
                        clear H1
                        have c27b0 := eq_true (of_decide_eq_true (by first | (with_reducible assumption) | assumption) : 0 ≤ (ji22))
                        have c28b0 := eq_true (of_decide_eq_true (by first | (with_reducible assumption) | assumption) : (ji22) ≤ (l0.length : Int))
                        replace H := Option.bind_eq_some_iff.mp H
                        obtain ⟨t132, A290, H⟩ := H
                        replace H : (stepladderlaw15_GoodBounds.j2 kj13 l0 a1 a3 t125 (decide (t132 < a1))) = some r := H
                        have A29 := Aside0.mk A290
                        clear A290
                        have H' := Aside0.mk H
                        clear H
                        obtain ⟨i030, hi030, _, hsz30, _⟩ := info_parts info3
                        obtain ⟨hcut30, hA30, hC30⟩ := print_take_of (P := Try.prog) (Value.int .i64) 0 22 3 .i64 Try.underlying22 hi030 hsz30 A0 c0 l0 (ji22) (of_decide_eq_true (by first | (with_reducible assumption) | assumption)) (of_decide_eq_true (by first | (with_reducible assumption) | assumption)) HC0.out
                        have HR129 := Aside0.mk (Kd.C_of_reads (h1 := fun _ => rfl) (hA30 _ (Kd.reads_of_C HR0.out)))
                        have HC129 := Aside0.mk hC30
                        clear hA30 hC30 hi030 hsz30
                        go_wp2_with (first | (go_at_call 13; refine calls_of_args (args' := #[.slice A0 (l0.take ((ji22) : Int).toNat).length c0, .int .i64 a1]) (by first | (rw [show (l0.take ((ji22) : Int).toNat).length = (ji22).toNat from (by rw [List.length_take]; have h_ : ((ji22) : Int) ≤ (l0.length : Int) := of_decide_eq_true (by first | (with_reducible assumption) | assumption); omega)] <;> rfl) | rfl) ?_; (with_reducible refine (good_Good.calls _ _ (l0.take ((ji22) : Int).toNat) a1 true _ ?side1 ?side2 A25.out).mono ?_); (case side1 => repeat (first | exact (Kd.C_below HR129.out HB.out) | (with_reducible refine Kd.C_alloc ?_ _) | (with_reducible refine Kd.C_drewN ?_ _) | (with_reducible refine Kd.C_drew ?_))); (case side2 => exact HC129.out); rintro e w31 ⟨rfl, hb⟩; have n0_ := Aside0.mk (Kd.R_below (by (with_reducible repeat (first | apply Kd.R_alloc | apply Kd.R_drewN | apply Kd.R_drew)); exact HO_10.out) hb); have n1_ := Aside0.mk (below_step (by repeat (first | (with_reducible first | exact HB.out | apply below_alloc | apply pw_below_drewN | apply below_drew1) | exact HB.out)) hb); clear HO_10; clear HB; have HO_10 := n0_; have HB := n1_; clear n0_ n1_; (try clear hb); (try clear hb2); (try clear hk); (try clear hi); obtain ⟨i032, hi032, _, hsz32, _⟩ := info_parts info3; obtain ⟨hcut32, hA32, hC32⟩ := print_take_of (P := Try.prog) (Value.int .i64) 0 22 3 .i64 Try.underlying22 hi032 hsz32 A0 c0 l0 (ji22) (of_decide_eq_true (by first | (with_reducible assumption) | assumption)) (of_decide_eq_true (by first | (with_reducible assumption) | assumption)) HC0.out; have HR131 := Aside0.mk (Kd.C_of_reads (h1 := fun _ => rfl) (hA32 _ (Kd.reads_of_C HR0.out))); have HC131 := Aside0.mk hC32; clear hA32 hC32 hi032 hsz32) | (go_at_call 14; refine calls_of_args (args' := #[.slice A0 (l0.take ((ji22) : Int).toNat).length c0, .int .i64 0, .int .i64 (wrap64 (a3 + 1))]) (by first | (rw [show (l0.take ((ji22) : Int).toNat).length = (ji22).toNat from (by rw [List.length_take]; have h_ : ((ji22) : Int) ≤ (l0.length : Int) := of_decide_eq_true (by first | (with_reducible assumption) | assumption); omega)] <;> rfl) | rfl) ?_; (with_reducible refine (good_Count.calls kj13 _ _ (l0.take ((ji22) : Int).toNat) 0 (wrap64 (a3 + 1)) t132 _ ?side1 ?side2 A29.out).mono ?_); (case side1 => repeat (first | exact (Kd.C_below HR131.out HB.out) | (with_reducible refine Kd.C_alloc ?_ _) | (with_reducible refine Kd.C_drewN ?_ _) | (with_reducible refine Kd.C_drew ?_))); (case side2 => exact HC131.out); rintro e w33 ⟨rfl, hb⟩; have n0_ := Aside0.mk (Kd.R_below (by (with_reducible repeat (first | apply Kd.R_alloc | apply Kd.R_drewN | apply Kd.R_drew)); exact HO_10.out) hb); have n1_ := Aside0.mk (below_step (by repeat (first | (with_reducible first | exact HB.out | apply below_alloc | apply pw_below_drewN | apply below_drew1) | exact HB.out)) hb); clear HO_10; clear HB; have HO_10 := n0_; have HB := n1_; clear n0_ n1_; (try clear hb); (try clear hb2); (try clear hk); (try clear hi)))
                        go_meet
                        case rel => exact ⟨_, (decide (t132 < a1)), (by first | rfl | (simp; done) | (simp [*]; done)), H', ⟨by have := HJ5.out; have := HJ13.out; first | omega | exact Nat.le_refl _⟩, ⟨by (with_reducible repeat (first | apply Kd.R_alloc | apply Kd.R_drewN | apply Kd.R_drew)); exact HO_10.out⟩, ⟨by repeat (first | (with_reducible first | exact HB.out | apply below_alloc | apply pw_below_drewN | apply below_drew1) | exact HB.out)⟩⟩
                      · replace c26 := Bool.eq_false_iff.mpr c26
                        subst c26
                        have H1 : (stepladderlaw15_GoodBounds.j2 kj13 l0 a1 a3 t125 true) = some r := by rw [if_neg (show ¬ (false = true) by decide)] at H; exact H
                        clear H
                        have H := H1
                        clear H1
                        have H' := Aside0.mk H
                        clear H
                        obtain ⟨i034, hi034, _, hsz34, _⟩ := info_parts info3
                        obtain ⟨hcut34, hA34, hC34⟩ := print_take_of (P := Try.prog) (Value.int .i64) 0 22 3 .i64 Try.underlying22 hi034 hsz34 A0 c0 l0 (ji22) (of_decide_eq_true (by first | (with_reducible assumption) | assumption)) (of_decide_eq_true (by first | (with_reducible assumption) | assumption)) HC0.out
                        have HR129 := Aside0.mk (Kd.C_of_reads (h1 := fun _ => rfl) (hA34 _ (Kd.reads_of_C HR0.out)))
                        have HC129 := Aside0.mk hC34
                        clear hA34 hC34 hi034 hsz34
                        go_wp2_with (first | (go_at_call 13; refine calls_of_args (args' := #[.slice A0 (l0.take ((ji22) : Int).toNat).length c0, .int .i64 a1]) (by first | (rw [show (l0.take ((ji22) : Int).toNat).length = (ji22).toNat from (by rw [List.length_take]; have h_ : ((ji22) : Int) ≤ (l0.length : Int) := of_decide_eq_true (by first | (with_reducible assumption) | assumption); omega)] <;> rfl) | rfl) ?_; (with_reducible refine (good_Good.calls _ _ (l0.take ((ji22) : Int).toNat) a1 false _ ?side1 ?side2 A25.out).mono ?_); (case side1 => repeat (first | exact (Kd.C_below HR129.out HB.out) | (with_reducible refine Kd.C_alloc ?_ _) | (with_reducible refine Kd.C_drewN ?_ _) | (with_reducible refine Kd.C_drew ?_))); (case side2 => exact HC129.out); rintro e w35 ⟨rfl, hb⟩; have n0_ := Aside0.mk (Kd.R_below (by (with_reducible repeat (first | apply Kd.R_alloc | apply Kd.R_drewN | apply Kd.R_drew)); exact HO_10.out) hb); have n1_ := Aside0.mk (below_step (by repeat (first | (with_reducible first | exact HB.out | apply below_alloc | apply pw_below_drewN | apply below_drew1) | exact HB.out)) hb); clear HO_10; clear HB; have HO_10 := n0_; have HB := n1_; clear n0_ n1_; (try clear hb); (try clear hb2); (try clear hk); (try clear hi)))
                        go_meet
                        case rel => exact ⟨_, (true), (by first | rfl | (simp; done) | (simp [*]; done)), H', ⟨by have := HJ5.out; have := HJ13.out; first | omega | exact Nat.le_refl _⟩, ⟨by (with_reducible repeat (first | apply Kd.R_alloc | apply Kd.R_drewN | apply Kd.R_drew)); exact HO_10.out⟩, ⟨by repeat (first | (with_reducible first | exact HB.out | apply below_alloc | apply pw_below_drewN | apply below_drew1) | exact HB.out)⟩⟩
                    · rw [if_neg c24] at H
                      exact absurd H (by simp)
                  · rw [if_neg c23] at H
                    exact absurd H (by simp)
                · replace c21 := Bool.eq_false_iff.mpr c21
                  subst c21
                  have H1 : (stepladderlaw15_GoodBounds.j2 kj13 l0 a1 a3 t125 true) = some r := by rw [if_neg (show ¬ (false = true) by decide)] at H; exact H
                  clear H
                  have H := H1
                  clear H1
                  have H' := Aside0.mk H
                  clear H
                  go_wp2
                  go_meet
                  case rel => exact ⟨_, (true), (by first | rfl | (simp; done) | (simp [*]; done)), H', ⟨by have := HJ5.out; have := HJ13.out; first | omega | exact Nat.le_refl _⟩, ⟨by (with_reducible repeat (first | apply Kd.R_alloc | apply Kd.R_drewN | apply Kd.R_drew)); exact HO_10.out⟩, ⟨by repeat (first | (with_reducible first | exact HB.out | apply below_alloc | apply pw_below_drewN | apply below_drew1) | exact HB.out)⟩⟩
              case rest =>
                clear HC20
                try clear c1
                try clear c2
                try clear p2
                try clear c3
                try clear p6
                try clear c8
                try clear c9
                try clear c9b0
                try clear c9b1
                try clear c10
                try clear c10b0
                try clear c11
                try clear c11b0
                try clear c12
                try clear c16
                try clear c17
                try clear c17b0
                try clear c18
                try clear c18b0
                try clear c19
                try clear c21
                try clear c23
                try clear c23b0
                try clear c23b1
                try clear c24
                try clear c24b0
                try clear c24b1
                try clear c26
                try clear c27
                try clear c27b0
                try clear c28
                try clear c28b0
                try clear p2
                obtain ⟨kq, x82_19, rfl, HA, HJ19, HO_10, HB⟩ := hcut
                cases kq with
                | zero => exact absurd HA.out (by simp [stepladderlaw15_GoodBounds.j2])
                | succ kj19 =>
                  have H := HA.out
                  clear HA
                  simp only [stepladderlaw15_GoodBounds.j2] at H
                  by_cases c36 : x82_19 = true
                  · subst c36
                    have H1 : (some true) = some r := by rw [if_pos rfl] at H; exact H
                    clear H
                    have H := H1
                    clear H1
                    obtain rfl := Option.some.inj H
                    go_wp2
                    go_ret
                    exact ⟨by first | rfl | (simp [errW_none, errW_some] <;> rfl) | (simp [*, errW_none, errW_some] <;> rfl), by repeat (first | (with_reducible first | exact HB.out | apply below_alloc | apply pw_below_drewN | apply below_drew1) | exact HB.out)⟩
                  · replace c36 := Bool.eq_false_iff.mpr c36
                    subst c36
                    have H1 : (stepladderlaw15_GoodBounds.l0 kj19 l0 a1 a3 t125 0 0) = some r := by rw [if_neg (show ¬ (false = true) by decide)] at H; exact H
                    clear H
                    have H := H1
                    clear H1
                    have H' := Aside0.mk H
                    clear H
                    go_wp2
                    go_loopg [12, 13] kj19 (fun kq v12 v13 w' => ∃ (x12_4 : Int) (x13_4 : Int), v12 = .int .i64 x12_4 ∧ v13 = .int .i64 x13_4 ∧ Aside0 (stepladderlaw15_GoodBounds.l0 kq l0 a1 a3 t125 x12_4 x13_4 = some r) ∧ Aside0 (kq ≤ kj19) ∧ Aside0 (Kd.R (Kd.int .i64) 3 w' w.heap.size (fun _ => True) v127 t125) ∧ Aside0 (Below w.heap.size w w'))
                    case atStart => exact ⟨(0), (0), (by first | rfl | (simp; done) | (simp [*]; done)), (by first | rfl | (simp; done) | (simp [*]; done)), H', ⟨Nat.le_refl _⟩, ⟨by (with_reducible repeat (first | apply Kd.R_alloc | apply Kd.R_drewN | apply Kd.R_drew)); exact HO_10.out⟩, ⟨by repeat (first | (with_reducible first | exact HB.out | apply below_alloc | apply pw_below_drewN | apply below_drew1) | exact HB.out)⟩⟩
                    case round =>
                      clear H'
                      try clear c1
                      try clear c2
                      try clear p2
                      try clear c3
                      try clear p6
                      try clear c8
                      try clear c9
                      try clear c9b0
                      try clear c9b1
                      try clear c10
                      try clear c10b0
                      try clear c11
                      try clear c11b0
                      try clear c12
                      try clear c16
                      try clear c17
                      try clear c17b0
                      try clear c18
                      try clear c18b0
                      try clear c19
                      try clear c21
                      try clear c23
                      try clear c23b0
                      try clear c23b1
                      try clear c24
                      try clear c24b0
                      try clear c24b1
                      try clear c26
                      try clear c27
                      try clear c27b0
                      try clear c28
                      try clear c28b0
                      try clear c36
                      try clear p2
                      try clear p6
                      obtain ⟨x12_4, x13_4, rfl, rfl, HA, HK4, HO_10, HB⟩ := hrel
                      cases gk with
                      | zero => exact absurd HA.out (by simp [stepladderlaw15_GoodBounds.l0])
                      | succ k4 =>
                        have H := HA.out
                        clear HA
                        simp only [stepladderlaw15_GoodBounds.l0] at H
                        by_cases c37 : x13_4 < (t125.length : Int)
                        · rw [if_pos c37] at H
                          have c37b0 : decide (x13_4 < (t125.length : Int)) = true := decide_eq_true c37
                          clear c37
                          have HC38 := Aside0.mk H
                          clear H
                          obtain ⟨Ao39, co39, eo39⟩ := Kd.R_slice HO_10.out
                          subst eo39
                          go_upto_region 13 with (fail)
                          go_cut [102] (fun v102 wc => ∃ (kq : Nat) (x102_37 : Bool), v102 = .bool x102_37 ∧ Aside0 (stepladderlaw15_GoodBounds.j4 kq l0 a1 a3 t125 x12_4 x13_4 x102_37 = some r) ∧ Aside0 (kq ≤ k4) ∧ Aside0 (Kd.R (Kd.int .i64) 3 wc w.heap.size (fun _ => True) (.slice Ao39 t125.length co39) t125) ∧ Aside0 (Below w.heap.size w wc))
                          case first =>
                            have H := HC38.out
                            clear HC38
                            by_cases c40 : 0 ≤ x13_4
                            · rw [if_pos c40] at H
                              have c40b0 : decide (0 ≤ x13_4) = true := decide_eq_true c40
                              clear c40
                              (first | rw [c40b0] | (simp only [i64_w, i32_w]; rw [c40b0]) | skip)
                              by_cases c41 : (rd t125 x13_4) < 0
                              · rw [if_pos c41] at H
                                have c41b0 : decide ((rd t125 x13_4) < 0) = true := decide_eq_true c41
                                clear c41
                                have H' := Aside0.mk H
                                clear H
                                have p133 : 0 ≤ (x13_4 : Int) := of_decide_eq_true (by first | (with_reducible assumption) | assumption)
                                have q133 : x13_4 < (t125.length : Int) := of_decide_eq_true (by first | (with_reducible assumption) | assumption)
                                obtain ⟨ad133, e133, hx133_0⟩ := Kd.at_int (Kd.R_reads' HO_10.out).2.2 x13_4 p133 q133
                                cases e133
                                replace p133 := eq_true p133
                                replace q133 := eq_true q133
                                go_wp2
                                go_meet
                                case rel => exact ⟨_, (true), (by first | rfl | (simp; done) | (simp [*]; done)), H', ⟨by have := HJ5.out; have := HJ13.out; have := HJ19.out; have := HK4.out; first | omega | exact Nat.le_refl _⟩, ⟨by (with_reducible repeat (first | apply Kd.R_alloc | apply Kd.R_drewN | apply Kd.R_drew)); exact HO_10.out⟩, ⟨by repeat (first | (with_reducible first | exact HB.out | apply below_alloc | apply pw_below_drewN | apply below_drew1) | exact HB.out)⟩⟩
                              · rw [if_neg c41] at H
                                have c41b0 : decide ((rd t125 x13_4) < 0) = false := decide_eq_false c41
                                clear c41
                                have H' := Aside0.mk H
                                clear H
                                have p133 : 0 ≤ (x13_4 : Int) := of_decide_eq_true (by first | (with_reducible assumption) | assumption)
                                have q133 : x13_4 < (t125.length : Int) := of_decide_eq_true (by first | (with_reducible assumption) | assumption)
                                obtain ⟨ad133, e133, hx133_0⟩ := Kd.at_int (Kd.R_reads' HO_10.out).2.2 x13_4 p133 q133
                                cases e133
                                replace p133 := eq_true p133
                                replace q133 := eq_true q133
                                have p134 : 0 ≤ (x13_4 : Int) := of_decide_eq_true (by first | (with_reducible assumption) | assumption)
                                have q134 : x13_4 < (t125.length : Int) := of_decide_eq_true (by first | (with_reducible assumption) | assumption)
                                obtain ⟨ad134, e134, hx134_0⟩ := Kd.at_int (Kd.R_reads' HO_10.out).2.2 x13_4 p134 q134
                                obtain rfl : ad133 = ad134 := (by injection e134)
                                replace p134 := eq_true p134
                                replace q134 := eq_true q134
                                go_wp2
                                go_meet
                                case rel => exact ⟨_, (decide ((rd t125 x13_4) ≥ (l0.length : Int))), (by first | rfl | (simp; done) | (simp [*]; done)), H', ⟨by have := HJ5.out; have := HJ13.out; have := HJ19.out; have := HK4.out; first | omega | exact Nat.le_refl _⟩, ⟨by (with_reducible repeat (first | apply Kd.R_alloc | apply Kd.R_drewN | apply Kd.R_drew)); exact HO_10.out⟩, ⟨by repeat (first | (with_reducible first | exact HB.out | apply below_alloc | apply pw_below_drewN | apply below_drew1) | exact HB.out)⟩⟩
                            · rw [if_neg c40] at H
                              exact absurd H (by simp)
                          case rest =>
                            clear HC38
                            try clear c1
                            try clear p1
                            try clear q1
                            try clear hx1
                            try clear c2
                            try clear p2
                            try clear c3
                            try clear c4
                            try clear p6
                            try clear c8
                            try clear c9
                            try clear c9b0
                            try clear c9b1
                            try clear c10
                            try clear c10b0
                            try clear c11
                            try clear c11b0
                            try clear c12
                            try clear p13
                            try clear q13
                            try clear hx13
                            try clear c16
                            try clear c17
                            try clear c17b0
                            try clear c18
                            try clear c18b0
                            try clear c19
                            try clear c21
                            try clear c23
                            try clear c23b0
                            try clear c23b1
                            try clear c24
                            try clear c24b0
                            try clear c24b1
                            try clear c26
                            try clear c27
                            try clear c27b0
                            try clear c28
                            try clear c28b0
                            try clear c36
                            try clear c37
                            try clear c37b0
                            try clear c40
                            try clear c40b0
                            try clear c41
                            try clear c41b0
                            try clear hx133_0
                            try clear hx134_0
                            try clear p133
                            try clear p134
                            try clear p2
                            try clear p6
                            try clear q133
                            try clear q134
                            obtain ⟨kq, x102_37, rfl, HA, HJ37, HO_10, HB⟩ := hcut
                            cases kq with
                            | zero => exact absurd HA.out (by simp [stepladderlaw15_GoodBounds.j4])
                            | succ kj37 =>
                              have H := HA.out
                              clear HA
                              simp only [stepladderlaw15_GoodBounds.j4] at H
                              by_cases c42 : x102_37 = true
                              · subst c42
                                have H1 : (some false) = some r := by rw [if_pos rfl] at H; exact H
                                clear H
                                have H := H1
                                clear H1
                                obtain rfl := Option.some.inj H
                                go_wp2
                                go_ret
                                exact ⟨by first | rfl | (simp [errW_none, errW_some] <;> rfl) | (simp [*, errW_none, errW_some] <;> rfl), by repeat (first | (with_reducible first | exact HB.out | apply below_alloc | apply pw_below_drewN | apply below_drew1) | exact HB.out)⟩
                              · replace c42 := Bool.eq_false_iff.mpr c42
                                subst c42
                                have H1 : (if 0 ≤ x13_4 then (if x13_4 < (t125.length : Int) then (if 0 ≤ (rd t125 x13_4) then (if (rd t125 x13_4) < (l0.length : Int) then (if (rd l0 (rd t125 x13_4)) = a3 then (stepladderlaw15_GoodBounds.l0 kj37 l0 a1 a3 t125 (wrap64 (x12_4 + 1)) (wrap64 (x13_4 + 1))) else (stepladderlaw15_GoodBounds.l0 kj37 l0 a1 a3 t125 x12_4 (wrap64 (x13_4 + 1)))) else (none)) else (none)) else (none)) else (none)) = some r := by rw [if_neg (show ¬ (false = true) by decide)] at H; exact H
                                clear H
                                have H := H1
                                clear H1
                                by_cases c43 : 0 ≤ x13_4
                                · rw [if_pos c43] at H
                                  have c43b0 : decide (0 ≤ x13_4) = true := decide_eq_true c43
                                  clear c43
                                  by_cases c44 : x13_4 < (t125.length : Int)
                                  · rw [if_pos c44] at H
                                    have c44b0 : decide (x13_4 < (t125.length : Int)) = true := decide_eq_true c44
                                    clear c44
                                    by_cases c45 : 0 ≤ (rd t125 x13_4)
                                    · rw [if_pos c45] at H
                                      have c45b0 : decide (0 ≤ (rd t125 x13_4)) = true := decide_eq_true c45
                                      clear c45
                                      by_cases c46 : (rd t125 x13_4) < (l0.length : Int)
                                      · rw [if_pos c46] at H
                                        have c46b0 : decide ((rd t125 x13_4) < (l0.length : Int)) = true := decide_eq_true c46
                                        clear c46
                                        by_cases c47 : (rd l0 (rd t125 x13_4)) = a3
                                        · rw [if_pos c47] at H
                                          have c47b0 : ((rd l0 (rd t125 x13_4)) == a3) = true := beq_iff_eq.mpr c47
                                          have c47b1 : ((rd l0 (rd t125 x13_4)) != a3) = false := bne_eq_false_iff_eq.mpr c47
                                          clear c47
                                          have H' := Aside0.mk H
                                          clear H
                                          have p135 : 0 ≤ (x13_4 : Int) := of_decide_eq_true (by first | (with_reducible assumption) | assumption)
                                          have q135 : x13_4 < (t125.length : Int) := of_decide_eq_true (by first | (with_reducible assumption) | assumption)
                                          obtain ⟨ad135, e135, hx135_0⟩ := Kd.at_int (Kd.R_reads' HO_10.out).2.2 x13_4 p135 q135
                                          cases e135
                                          replace p135 := eq_true p135
                                          replace q135 := eq_true q135
                                          have p136 : 0 ≤ ((rd t125 x13_4) : Int) := of_decide_eq_true (by first | (with_reducible assumption) | assumption)
                                          have q136 : (rd t125 x13_4) < (l0.length : Int) := of_decide_eq_true (by first | (with_reducible assumption) | assumption)
                                          obtain ⟨ad136, e136, hx136_0⟩ := Kd.at_int HR0.out (rd t125 x13_4) p136 q136
                                          cases e136
                                          replace hx136_0 := (HB.out.cell (World.block_lt_of_cell? w _ hx136_0)).trans hx136_0
                                          replace p136 := eq_true p136
                                          replace q136 := eq_true q136
                                          go_wp2
                                          go_roundg kj37
                                          case measure => have := HJ5.out; have := HJ13.out; have := HJ19.out; have := HK4.out; have := HJ37.out; omega
                                          case rel => exact ⟨(wrap64 (x12_4 + 1)), (wrap64 (x13_4 + 1)), (by first | rfl | (simp; done) | (simp [*]; done)), (by first | rfl | (simp; done) | (simp [*]; done)), H', ⟨by have := HJ5.out; have := HJ13.out; have := HJ19.out; have := HK4.out; have := HJ37.out; omega⟩, ⟨by (with_reducible repeat (first | apply Kd.R_alloc | apply Kd.R_drewN | apply Kd.R_drew)); exact HO_10.out⟩, ⟨by repeat (first | (with_reducible first | exact HB.out | apply below_alloc | apply pw_below_drewN | apply below_drew1) | exact HB.out)⟩⟩
                                        · rw [if_neg c47] at H
                                          have c47b0 : ((rd l0 (rd t125 x13_4)) == a3) = false := beq_eq_false_iff_ne.mpr c47
                                          have c47b1 : ((rd l0 (rd t125 x13_4)) != a3) = true := bne_iff_ne.mpr c47
                                          have H' := Aside0.mk H
                                          clear H
                                          have p135 : 0 ≤ (x13_4 : Int) := of_decide_eq_true (by first | (with_reducible assumption) | assumption)
                                          have q135 : x13_4 < (t125.length : Int) := of_decide_eq_true (by first | (with_reducible assumption) | assumption)
                                          obtain ⟨ad135, e135, hx135_0⟩ := Kd.at_int (Kd.R_reads' HO_10.out).2.2 x13_4 p135 q135
                                          cases e135
                                          replace p135 := eq_true p135
                                          replace q135 := eq_true q135
                                          have p136 : 0 ≤ ((rd t125 x13_4) : Int) := of_decide_eq_true (by first | (with_reducible assumption) | assumption)
                                          have q136 : (rd t125 x13_4) < (l0.length : Int) := of_decide_eq_true (by first | (with_reducible assumption) | assumption)
                                          obtain ⟨ad136, e136, hx136_0⟩ := Kd.at_int HR0.out (rd t125 x13_4) p136 q136
                                          cases e136
                                          replace hx136_0 := (HB.out.cell (World.block_lt_of_cell? w _ hx136_0)).trans hx136_0
                                          replace p136 := eq_true p136
                                          replace q136 := eq_true q136
                                          go_wp2
                                          go_roundg kj37
                                          case measure => have := HJ5.out; have := HJ13.out; have := HJ19.out; have := HK4.out; have := HJ37.out; omega
                                          case rel => exact ⟨(x12_4), (wrap64 (x13_4 + 1)), (by first | rfl | (simp; done) | (simp [*]; done)), (by first | rfl | (simp; done) | (simp [*]; done)), H', ⟨by have := HJ5.out; have := HJ13.out; have := HJ19.out; have := HK4.out; have := HJ37.out; omega⟩, ⟨by (with_reducible repeat (first | apply Kd.R_alloc | apply Kd.R_drewN | apply Kd.R_drew)); exact HO_10.out⟩, ⟨by repeat (first | (with_reducible first | exact HB.out | apply below_alloc | apply pw_below_drewN | apply below_drew1) | exact HB.out)⟩⟩
                                      · rw [if_neg c46] at H
                                        exact absurd H (by simp)
                                    · rw [if_neg c45] at H
                                      exact absurd H (by simp)
                                  · rw [if_neg c44] at H
                                    exact absurd H (by simp)
                                · rw [if_neg c43] at H
                                  exact absurd H (by simp)
                        · rw [if_neg c37] at H
                          have c37b0 : decide (x13_4 < (t125.length : Int)) = false := decide_eq_false c37
                          clear c37
                          obtain rfl := Option.some.inj H
                          obtain ⟨Ao48, co48, eo48⟩ := Kd.R_slice HO_10.out
                          subst eo48
                          go_wp2
                          go_ret
                          exact ⟨by first | rfl | (simp [errW_none, errW_some] <;> rfl) | (simp [*, errW_none, errW_some] <;> rfl), by repeat (first | (with_reducible first | exact HB.out | apply below_alloc | apply pw_below_drewN | apply below_drew1) | exact HB.out)⟩

/-- THE ONE PURE STATEMENT of stepladderlaw15_GoodBounds: yours. -/
def stepladderlaw15_GoodBounds.Pure : Prop := ∀ (l0 : List Int) (a1 : Int) (a2 : Int) (a3 : Int), l0.length ≤ maxLen → l0.length * 8 ≤ 140737488351232 → (∀ x ∈ l0, (Lit.int .i64 x).wf = true) → (Lit.int .i64 a1).wf = true → (Lit.int .i64 a2).wf = true → (Lit.int .i64 a3).wf = true → ∃ k, stepladderlaw15_GoodBounds.f k l0 a1 a2 a3 = some true
theorem stepladderlaw15_GoodBounds.walk (P : stepladderlaw15_GoodBounds.Pure) (a0 : Option Addr) (len0 cap0 : Nat) (z0 : List Int) (a1 : Int) (a2 : Int) (a3 : Int) (w : World) (w0 : (a0 = none ∧ len0 = 0 ∧ cap0 = 0 ∧ z0 = []) ∨ ∃ x, a0 = some x ∧ len0 ≤ cap0 ∧ cap0 ≤ maxLen ∧ z0.length = cap0 ∧ (∀ i, i < z0.length → w.cell? (x.add i) = some (.int .i64 (z0.getD i 0))) ∧ ∀ n ∈ z0, (Lit.int .i64 n).wf = true) (y0 : len0 * 8 ≤ 140737488351232) (w1 : (Lit.int .i64 a1).wf = true) (w2 : (Lit.int .i64 a2).wf = true) (w3 : (Lit.int .i64 a3).wf = true) :
    Calls Try.prog 3 #[.slice a0 len0 cap0, .int .i64 a1, .int .i64 a2, .int .i64 a3] w fun e w' => e = .returned (.bool true) ∧ Below w.heap.size w w' := by
  obtain ⟨l0, rfl, hr0, hm0, hw0, hc0⟩ := ReadsInt.ofRowC w0
  obtain ⟨k, h⟩ := P l0 a1 a2 a3 hm0 y0 hw0 w1 w2 w3
  refine (stepladderlaw15_GoodBounds.calls k _ _ l0 a1 a2 a3 true w (Kd.C_of_reads (d := (0 : Int)) (h1 := fun _ => rfl) hr0) hc0 h).mono ?_
  rintro e w' ⟨rfl, hd⟩
  exact ⟨rfl, hd⟩

end Go.Proofs.Ytgjkjndfnjabeaa.X
