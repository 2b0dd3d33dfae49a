-- By this session's own program (wip/tools/xprint.py), over the kit's print. Not trusted: Lean checks it.
import Derived.Test.YtgjkjndfnjabeaaX0
import Derived.Test.YtgjkjndfnjabeaaXinfixBack
import Derived.Test.YtgjkjndfnjabeaaXstepladderlaw16awake
namespace Go.Proofs.Ytgjkjndfnjabeaa.X
open Go.RowKit Go.Proofs.YtgjkjndfnjabeaaW.PrintWords Go.Proofs.YtgjkjndfnjabeaaW.PrintLast Go.Proofs.YtgjkjndfnjabeaaW.PrintMore
attribute [local go_sem] max2_int min2_int max_two min_two max_three min_three max_four min_four   -- for this text's walks alone
set_option linter.unusedVariables false
set_option linter.unusedSimpArgs false

/-! ### stepladderlaw16_InfixBack: function 6 -/
mutual
def stepladderlaw16_InfixBack.j0 : Nat → List Int → Int → Int → Int → Int → Bool → Bool → Option (Bool)
  | 0, _, _, _, _, _, _, _ => none
  | k + 1, x0, x1, x2, x3, x4, x11, x27 => if x27 = true then (some x11) else ((infix_Back.f k x0 x1 x2).bind fun t294 => ((infix_Back.f k x0 x1 x3).bind fun t295 => (if t294 < 0 then (stepladderlaw16_InfixBack.j1 k x0 x1 x2 x3 x4 t294 t295 true) else (stepladderlaw16_InfixBack.j1 k x0 x1 x2 x3 x4 t294 t295 (decide (t295 < 0))))))
def stepladderlaw16_InfixBack.j1 : Nat → List Int → Int → Int → Int → Int → Int → Int → Bool → Option (Bool)
  | 0, _, _, _, _, _, _, _, _ => none
  | k + 1, x0, x1, x2, x3, x4, x12, x13, x42 => if x42 = true then (if x12 < 0 then (some true) else (some (decide (x3 > 31)))) else (if x12 ≥ x1 then (stepladderlaw16_InfixBack.j2 k x0 x1 x2 x4 x12 true) else (if x13 > x12 then (stepladderlaw16_InfixBack.j2 k x0 x1 x2 x4 x12 true) else (if x2 > 0 then (if 0 ≤ x12 then (if x12 < (x0.length : Int) then (if (rd x0 x12) < x2 then (stepladderlaw16_InfixBack.j2 k x0 x1 x2 x4 x12 true) else (if x2 = 0 then (stepladderlaw16_InfixBack.j2 k x0 x1 x2 x4 x12 (x12 != (wrap64 (x1 - 1)))) else (stepladderlaw16_InfixBack.j2 k x0 x1 x2 x4 x12 false))) else (none)) else (none)) else (if x2 = 0 then (stepladderlaw16_InfixBack.j2 k x0 x1 x2 x4 x12 (x12 != (wrap64 (x1 - 1)))) else (stepladderlaw16_InfixBack.j2 k x0 x1 x2 x4 x12 false)))))
def stepladderlaw16_InfixBack.j2 : Nat → List Int → Int → Int → Int → Int → Bool → Option (Bool)
  | 0, _, _, _, _, _, _ => none
  | k + 1, x0, x1, x2, x4, x12, x78 => if x78 = true then (some false) else (if x4 > x12 then (if x4 < x1 then (if 0 ≤ x4 then (if x4 < (x0.length : Int) then (if (rd x0 x4) ≥ x2 then (if x2 > 0 then (some false) else ((infix_Back.f k x0 x4 x2).bind fun t298 => (if x2 < 1 then (some true) else (if x4 ≤ x12 then (some true) else (if x4 ≥ x1 then (some true) else (some (decide (t298 ≤ x12)))))))) else ((infix_Back.f k x0 x4 x2).bind fun t299 => (if x2 < 1 then (some true) else (if x4 ≤ x12 then (some true) else (if x4 ≥ x1 then (some true) else (some (decide (t299 ≤ x12)))))))) else (none)) else (none)) else ((infix_Back.f k x0 x4 x2).bind fun t300 => (if x2 < 1 then (some true) else (if x4 ≤ x12 then (some true) else (if x4 ≥ x1 then (some true) else (some (decide (t300 ≤ x12)))))))) else ((infix_Back.f k x0 x4 x2).bind fun t301 => (if x2 < 1 then (some true) else (if x4 ≤ x12 then (some true) else (if x4 ≥ x1 then (some true) else (some (decide (t301 ≤ x12))))))))
end
def stepladderlaw16_InfixBack.f (k : Nat) (l0 : List Int) (a1 : Int) (a2 : Int) (a3 : Int) (a4 : Int) : Option (Bool) := (stepladderlaw16_awake.f k).bind fun t293 => (if t293 = true then (if (l0.length : Int) > 210 then (stepladderlaw16_InfixBack.j0 k l0 a1 a2 a3 a4 t293 true) else (stepladderlaw16_InfixBack.j0 k l0 a1 a2 a3 a4 t293 (decide (a3 < a2)))) else (stepladderlaw16_InfixBack.j0 k l0 a1 a2 a3 a4 t293 true))
theorem stepladderlaw16_InfixBack.mono_l : ∀ k, (∀ y0 y1 y2 y3 y4 y5 y6, LeO (stepladderlaw16_InfixBack.j0 k y0 y1 y2 y3 y4 y5 y6) (stepladderlaw16_InfixBack.j0 (k + 1) y0 y1 y2 y3 y4 y5 y6)) ∧ (∀ y0 y1 y2 y3 y4 y5 y6 y7, LeO (stepladderlaw16_InfixBack.j1 k y0 y1 y2 y3 y4 y5 y6 y7) (stepladderlaw16_InfixBack.j1 (k + 1) y0 y1 y2 y3 y4 y5 y6 y7)) ∧ (∀ y0 y1 y2 y3 y4 y5, LeO (stepladderlaw16_InfixBack.j2 k y0 y1 y2 y3 y4 y5) (stepladderlaw16_InfixBack.j2 (k + 1) y0 y1 y2 y3 y4 y5))
  | 0 => ⟨fun _ _ _ _ _ _ _ r h => by simp [stepladderlaw16_InfixBack.j0] at h, fun _ _ _ _ _ _ _ _ r h => by simp [stepladderlaw16_InfixBack.j1] at h, fun _ _ _ _ _ _ r h => by simp [stepladderlaw16_InfixBack.j2] at h⟩
  | k + 1 => by
    obtain ⟨ih0, ih1, ih2⟩ := stepladderlaw16_InfixBack.mono_l k
    refine ⟨?_, ?_, ?_⟩
    · intro y0 y1 y2 y3 y4 y5 y6
      unfold stepladderlaw16_InfixBack.j0
      repeat' first
      | (with_reducible exact ih0 _ _ _ _ _ _ _)
      | (with_reducible exact ih1 _ _ _ _ _ _ _ _)
      | (with_reducible exact ih2 _ _ _ _ _ _)
      | (with_reducible exact infix_Back.mono _ _ _ _)
      | (with_reducible exact stepladderlaw16_awake.mono _)
      | (with_reducible exact LeO.refl _)
      | (with_reducible exact LeO.none _)
      | (with_reducible refine LeO.ite ?_ ?_)
      | (with_reducible refine LeO.bind ?_ (fun _ => ?_))
      | exact ih0 _ _ _ _ _ _ _
      | exact ih1 _ _ _ _ _ _ _ _
      | exact ih2 _ _ _ _ _ _
      | exact infix_Back.mono _ _ _ _
      | exact stepladderlaw16_awake.mono _
      | exact LeO.none _
      | refine LeO.ite ?_ ?_
      | refine LeO.bind ?_ (fun _ => ?_)
    · intro y0 y1 y2 y3 y4 y5 y6 y7
      unfold stepladderlaw16_InfixBack.j1
      repeat' first
      | (with_reducible exact ih0 _ _ _ _ _ _ _)
      | (with_reducible exact ih1 _ _ _ _ _ _ _ _)
      | (with_reducible exact ih2 _ _ _ _ _ _)
      | (with_reducible exact infix_Back.mono _ _ _ _)
      | (with_reducible exact stepladderlaw16_awake.mono _)
      | (with_reducible exact LeO.refl _)
      | (with_reducible exact LeO.none _)
      | (with_reducible refine LeO.ite ?_ ?_)
      | (with_reducible refine LeO.bind ?_ (fun _ => ?_))
      | exact ih0 _ _ _ _ _ _ _
      | exact ih1 _ _ _ _ _ _ _ _
      | exact ih2 _ _ _ _ _ _
      | exact infix_Back.mono _ _ _ _
      | exact stepladderlaw16_awake.mono _
      | exact LeO.none _
      | refine LeO.ite ?_ ?_
      | refine LeO.bind ?_ (fun _ => ?_)
    · intro y0 y1 y2 y3 y4 y5
      unfold stepladderlaw16_InfixBack.j2
      repeat' first
      | (with_reducible exact ih0 _ _ _ _ _ _ _)
      | (with_reducible exact ih1 _ _ _ _ _ _ _ _)
      | (with_reducible exact ih2 _ _ _ _ _ _)
      | (with_reducible exact infix_Back.mono _ _ _ _)
      | (with_reducible exact stepladderlaw16_awake.mono _)
      | (with_reducible exact LeO.refl _)
      | (with_reducible exact LeO.none _)
      | (with_reducible refine LeO.ite ?_ ?_)
      | (with_reducible refine LeO.bind ?_ (fun _ => ?_))
      | exact ih0 _ _ _ _ _ _ _
      | exact ih1 _ _ _ _ _ _ _ _
      | exact ih2 _ _ _ _ _ _
      | exact infix_Back.mono _ _ _ _
      | exact stepladderlaw16_awake.mono _
      | exact LeO.none _
      | refine LeO.ite ?_ ?_
      | refine LeO.bind ?_ (fun _ => ?_)
theorem stepladderlaw16_InfixBack.mono : ∀ a0 a1 a2 a3 a4 k, LeO (stepladderlaw16_InfixBack.f k a0 a1 a2 a3 a4) (stepladderlaw16_InfixBack.f (k + 1) a0 a1 a2 a3 a4) := by
  intro a0 a1 a2 a3 a4 k
  obtain ⟨ih0, ih1, ih2⟩ := stepladderlaw16_InfixBack.mono_l k
  unfold stepladderlaw16_InfixBack.f
  repeat' first
      | (with_reducible exact ih0 _ _ _ _ _ _ _)
      | (with_reducible exact ih1 _ _ _ _ _ _ _ _)
      | (with_reducible exact ih2 _ _ _ _ _ _)
      | (with_reducible exact infix_Back.mono _ _ _ _)
      | (with_reducible exact stepladderlaw16_awake.mono _)
      | (with_reducible exact LeO.refl _)
      | (with_reducible exact LeO.none _)
      | (with_reducible refine LeO.ite ?_ ?_)
      | (with_reducible refine LeO.bind ?_ (fun _ => ?_))
      | exact ih0 _ _ _ _ _ _ _
      | exact ih1 _ _ _ _ _ _ _ _
      | exact ih2 _ _ _ _ _ _
      | exact infix_Back.mono _ _ _ _
      | exact stepladderlaw16_awake.mono _
      | exact LeO.none _
      | refine LeO.ite ?_ ?_
      | refine LeO.bind ?_ (fun _ => ?_)
set_option maxHeartbeats 8000000 in
set_option maxRecDepth 100000 in
theorem stepladderlaw16_InfixBack.calls (k : Nat) (A0 : Option Addr) (c0 : Nat) (l0 : List Int) (a1 : Int) (a2 : Int) (a3 : Int) (a4 : Int) (r : Bool) (w : World) (hr0 : Kd.C (Kd.int .i64) w A0 l0.length l0) (hc0 : l0.length ≤ c0) (h : stepladderlaw16_InfixBack.f k l0 a1 a2 a3 a4 = some r) :
    Calls Try.prog 6 #[.slice A0 l0.length c0, .int .i64 a1, .int .i64 a2, .int .i64 a3, .int .i64 a4] w fun e w' => e = .returned (.bool r) ∧ Below w.heap.size w w' := by
  have HR0 := Aside0.mk hr0
  have HC0 := Aside0.mk hc0
  clear hr0 hc0
  have HB := Aside0.mk (Below.refl w.heap.size w)
  have H : ((stepladderlaw16_awake.f k).bind fun t293 => (if t293 = true then (if (l0.length : Int) > 210 then (stepladderlaw16_InfixBack.j0 k l0 a1 a2 a3 a4 t293 true) else (stepladderlaw16_InfixBack.j0 k l0 a1 a2 a3 a4 t293 (decide (a3 < a2)))) else (stepladderlaw16_InfixBack.j0 k l0 a1 a2 a3 a4 t293 true))) = some r := h
  clear h
  replace H := Option.bind_eq_some_iff.mp H
  obtain ⟨t293, A60, H⟩ := H
  replace H : (if t293 = true then (if (l0.length : Int) > 210 then (stepladderlaw16_InfixBack.j0 k l0 a1 a2 a3 a4 t293 true) else (stepladderlaw16_InfixBack.j0 k l0 a1 a2 a3 a4 t293 (decide (a3 < a2)))) else (stepladderlaw16_InfixBack.j0 k l0 a1 a2 a3 a4 t293 true)) = some r := H
  have A6 := Aside0.mk A60
  clear A60
  have HC7 := Aside0.mk H
  clear H
  go_enter Try.func6, Try.ntmps6
  go_upto_region 2 with (first | ((with_reducible refine gate_callee (f := 15) rfl ?_); refine goesL_ (some 15) rfl rfl Try.func15 (by kernel_rfl) rfl #[] rfl (by (try simp only [List.map_toArray, List.map_cons, List.map_nil]); first | done | rfl | (simp only [List.length_drop, List.length_take]; rfl)) ?_; (with_reducible refine (stepladderlaw16_awake.calls k  t293 _ A6.out).mono ?_); rintro e w8 ⟨rfl, hb⟩; refine ⟨_, rfl, ?_⟩; have n0_ := Aside0.mk (below_step (by repeat (first | (with_reducible first | exact HB.out | apply below_alloc | apply pw_below_drewN | apply below_drew1) | exact HB.out)) hb); clear HB; have HB := n0_; clear n0_; (try clear hb); (try clear hb2); (try clear hk); (try clear hi)))
  (try simp only [Act.put, List.setIfInBounds_toArray, List.set_cons_zero, List.set_cons_succ])
  go_cut [27] (fun v27 wc => ∃ (kq : Nat) (x27_6 : Bool), v27 = .bool x27_6 ∧ Aside0 (stepladderlaw16_InfixBack.j0 kq l0 a1 a2 a3 a4 t293 x27_6 = some r) ∧ Aside0 (kq ≤ k) ∧ Aside0 (Below w.heap.size w wc))
  case first =>
    have H := HC7.out
    clear HC7
    by_cases c9 : t293 = true
    · subst c9
      have H1 : (if (l0.length : Int) > 210 then (stepladderlaw16_InfixBack.j0 k l0 a1 a2 a3 a4 true true) else (stepladderlaw16_InfixBack.j0 k l0 a1 a2 a3 a4 true (decide (a3 < a2)))) = some r := by rw [if_pos rfl] at H; exact H
      clear H
      have H := H1
      clear H1
      by_cases c10 : (l0.length : Int) > 210
      · rw [if_pos c10] at H
        have c10b0 : decide (210 < (l0.length : Int)) = true := decide_eq_true c10
        have c10b1 : decide (210 < l0.length) = true := decide_eq_true (by omega)
        clear c10
        (first | rw [c10b0] | (simp only [i64_w, i32_w]; rw [c10b0]) | skip)
        have H' := Aside0.mk H
        clear H
        go_wp2
        go_meet
        case rel => exact ⟨_, (true), (by first | rfl | (simp; done) | (simp [*]; done)), H', ⟨by first | omega | exact Nat.le_refl _⟩, ⟨by repeat (first | (with_reducible first | exact HB.out | apply below_alloc | apply pw_below_drewN | apply below_drew1) | exact HB.out)⟩⟩
      · rw [if_neg c10] at H
        have c10b0 : decide (210 < (l0.length : Int)) = false := decide_eq_false c10
        have c10b1 : decide (210 < l0.length) = false := decide_eq_false (by omega)
        clear c10
        (first | rw [c10b0] | (simp only [i64_w, i32_w]; rw [c10b0]) | skip)
        have H' := Aside0.mk H
        clear H
        go_wp2
        go_meet
        case rel => exact ⟨_, (decide (a3 < a2)), (by first | rfl | (simp; done) | (simp [*]; done)), H', ⟨by first | omega | exact Nat.le_refl _⟩, ⟨by repeat (first | (with_reducible first | exact HB.out | apply below_alloc | apply pw_below_drewN | apply below_drew1) | exact HB.out)⟩⟩
    · replace c9 := Bool.eq_false_iff.mpr c9
      subst c9
      have H1 : (stepladderlaw16_InfixBack.j0 k l0 a1 a2 a3 a4 false true) = some r := by rw [if_neg (show ¬ (false = true) by decide)] at H; exact H
      clear H
      have H := H1
      clear H1
      have H' := Aside0.mk H
      clear H
      go_wp2
      go_meet
      case rel => exact ⟨_, (true), (by first | rfl | (simp; done) | (simp [*]; done)), H', ⟨by first | omega | exact Nat.le_refl _⟩, ⟨by repeat (first | (with_reducible first | exact HB.out | apply below_alloc | apply pw_below_drewN | apply below_drew1) | exact HB.out)⟩⟩
  case rest =>
    clear HC7
    try clear c1
    try clear p2
    try clear c6
    try clear c9
    try clear c10
    try clear c10b0
    try clear c10b1
    obtain ⟨kq, x27_6, rfl, HA, HJ6, HB⟩ := hcut
    cases kq with
    | zero => exact absurd HA.out (by simp [stepladderlaw16_InfixBack.j0])
    | succ kj6 =>
      have H := HA.out
      clear HA
      simp only [stepladderlaw16_InfixBack.j0] at H
      by_cases c11 : x27_6 = true
      · subst c11
        have H1 : (some t293) = some r := by rw [if_pos rfl] at H; exact H
        clear H
        have H := H1
        clear H1
        obtain rfl := Option.some.inj H
        go_wp2
        go_ret
        exact ⟨by first | rfl | (simp [errW_none, errW_some] <;> rfl) | (simp [*, errW_none, errW_some] <;> rfl), by repeat (first | (with_reducible first | exact HB.out | apply below_alloc | apply pw_below_drewN | apply below_drew1) | exact HB.out)⟩
      · replace c11 := Bool.eq_false_iff.mpr c11
        subst c11
        have H1 : ((infix_Back.f kj6 l0 a1 a2).bind fun t294 => ((infix_Back.f kj6 l0 a1 a3).bind fun t295 => (if t294 < 0 then (stepladderlaw16_InfixBack.j1 kj6 l0 a1 a2 a3 a4 t294 t295 true) else (stepladderlaw16_InfixBack.j1 kj6 l0 a1 a2 a3 a4 t294 t295 (decide (t295 < 0)))))) = some r := by rw [if_neg (show ¬ (false = true) by decide)] at H; exact H
        clear H
        have H := H1
        clear H1
        replace H := Option.bind_eq_some_iff.mp H
        obtain ⟨t294, A120, H⟩ := H
        replace H : ((infix_Back.f kj6 l0 a1 a3).bind fun t295 => (if t294 < 0 then (stepladderlaw16_InfixBack.j1 kj6 l0 a1 a2 a3 a4 t294 t295 true) else (stepladderlaw16_InfixBack.j1 kj6 l0 a1 a2 a3 a4 t294 t295 (decide (t295 < 0))))) = some r := H
        have A12 := Aside0.mk A120
        clear A120
        replace H := Option.bind_eq_some_iff.mp H
        obtain ⟨t295, A130, H⟩ := H
        replace H : (if t294 < 0 then (stepladderlaw16_InfixBack.j1 kj6 l0 a1 a2 a3 a4 t294 t295 true) else (stepladderlaw16_InfixBack.j1 kj6 l0 a1 a2 a3 a4 t294 t295 (decide (t295 < 0)))) = some r := H
        have A13 := Aside0.mk A130
        clear A130
        have HC14 := Aside0.mk H
        clear H
        go_upto_region 6 with (first | ((with_reducible refine gate_callee (f := 23) rfl ?_); refine goesL_ (some 32) rfl rfl Try.func23 (by kernel_rfl) rfl #[.slice A0 l0.length c0, .int .i64 a1, .int .i64 a2] rfl (by (try simp only [List.map_toArray, List.map_cons, List.map_nil]); first | done | rfl | (simp only [List.length_drop, List.length_take]; rfl)) ?_; (with_reducible refine (infix_Back.calls kj6 _ _ l0 a1 a2 t294 _ ?side1 ?side2 A12.out).mono ?_); (case side1 => repeat (first | exact (Kd.C_below HR0.out HB.out) | (with_reducible refine Kd.C_alloc ?_ _) | (with_reducible refine Kd.C_drewN ?_ _) | (with_reducible refine Kd.C_drew ?_))); (case side2 => exact HC0.out); rintro e w' ⟨rfl, ⟨nd, rfl⟩⟩; refine ⟨_, rfl, ?_⟩) | ((with_reducible refine gate_callee (f := 23) rfl ?_); refine goesL_ (some 36) rfl rfl Try.func23 (by kernel_rfl) rfl #[.slice A0 l0.length c0, .int .i64 a1, .int .i64 a3] rfl (by (try simp only [List.map_toArray, List.map_cons, List.map_nil]); first | done | rfl | (simp only [List.length_drop, List.length_take]; rfl)) ?_; (with_reducible refine (infix_Back.calls kj6 _ _ l0 a1 a3 t295 _ ?side1 ?side2 A13.out).mono ?_); (case side1 => repeat (first | exact (Kd.C_below HR0.out (by repeat (first | (with_reducible first | exact HB.out | apply below_alloc | apply pw_below_drewN | apply below_drew1) | exact HB.out))) | (with_reducible refine Kd.C_alloc ?_ _) | (with_reducible refine Kd.C_drewN ?_ _) | (with_reducible refine Kd.C_drew ?_))); (case side2 => exact HC0.out); rintro e w' ⟨rfl, ⟨nd, rfl⟩⟩; refine ⟨_, rfl, ?_⟩))
        (try simp only [Act.put, List.setIfInBounds_toArray, List.set_cons_zero, List.set_cons_succ])
        go_cut [42] (fun v42 wc => ∃ (kq : Nat) (x42_13 : Bool), v42 = .bool x42_13 ∧ Aside0 (stepladderlaw16_InfixBack.j1 kq l0 a1 a2 a3 a4 t294 t295 x42_13 = some r) ∧ Aside0 (kq ≤ kj6) ∧ Aside0 (Below w.heap.size w wc))
        case first =>
          have H := HC14.out
          clear HC14
          by_cases c15 : t294 < 0
          · rw [if_pos c15] at H
            have c15b0 : decide (t294 < 0) = true := decide_eq_true c15
            clear c15
            (first | rw [c15b0] | (simp only [i64_w, i32_w]; rw [c15b0]) | skip)
            have H' := Aside0.mk H
            clear H
            go_wp2
            go_meet
            case rel => exact ⟨_, (true), (by first | rfl | (simp; done) | (simp [*]; done)), H', ⟨by have := HJ6.out; first | omega | exact Nat.le_refl _⟩, ⟨by repeat (first | (with_reducible first | exact HB.out | apply below_alloc | apply pw_below_drewN | apply below_drew1) | exact HB.out)⟩⟩
          · rw [if_neg c15] at H
            have c15b0 : decide (t294 < 0) = false := decide_eq_false c15
            clear c15
            (first | rw [c15b0] | (simp only [i64_w, i32_w]; rw [c15b0]) | skip)
            have H' := Aside0.mk H
            clear H
            go_wp2
            go_meet
            case rel => exact ⟨_, (decide (t295 < 0)), (by first | rfl | (simp; done) | (simp [*]; done)), H', ⟨by have := HJ6.out; first | omega | exact Nat.le_refl _⟩, ⟨by repeat (first | (with_reducible first | exact HB.out | apply below_alloc | apply pw_below_drewN | apply below_drew1) | exact HB.out)⟩⟩
        case rest =>
          clear HC14
          try clear c1
          try clear c2
          try clear p2
          try clear c6
          try clear c9
          try clear c10
          try clear c10b0
          try clear c10b1
          try clear c11
          try clear c15
          try clear c15b0
          try clear p2
          obtain ⟨kq, x42_13, rfl, HA, HJ13, HB⟩ := hcut
          cases kq with
          | zero => exact absurd HA.out (by simp [stepladderlaw16_InfixBack.j1])
          | succ kj13 =>
            have H := HA.out
            clear HA
            simp only [stepladderlaw16_InfixBack.j1] at H
            by_cases c16 : x42_13 = true
            · subst c16
              have H1 : (if t294 < 0 then (some true) else (some (decide (a3 > 31)))) = some r := by rw [if_pos rfl] at H; exact H
              clear H
              have H := H1
              clear H1
              by_cases c17 : t294 < 0
              · rw [if_pos c17] at H
                have c17b0 : decide (t294 < 0) = true := decide_eq_true c17
                clear c17
                obtain rfl := Option.some.inj H
                go_wp2
                go_ret
                exact ⟨by first | rfl | (simp [errW_none, errW_some] <;> rfl) | (simp [*, errW_none, errW_some] <;> rfl), by repeat (first | (with_reducible first | exact HB.out | apply below_alloc | apply pw_below_drewN | apply below_drew1) | exact HB.out)⟩
              · rw [if_neg c17] at H
                have c17b0 : decide (t294 < 0) = false := decide_eq_false c17
                clear c17
                obtain rfl := Option.some.inj H
                go_wp2
                go_ret
                exact ⟨by first | rfl | (simp [errW_none, errW_some] <;> rfl) | (simp [*, errW_none, errW_some] <;> rfl), by repeat (first | (with_reducible first | exact HB.out | apply below_alloc | apply pw_below_drewN | apply below_drew1) | exact HB.out)⟩
            · replace c16 := Bool.eq_false_iff.mpr c16
              subst c16
              have H1 : (if t294 ≥ a1 then (stepladderlaw16_InfixBack.j2 kj13 l0 a1 a2 a4 t294 true) else (if t295 > t294 then (stepladderlaw16_InfixBack.j2 kj13 l0 a1 a2 a4 t294 true) else (if a2 > 0 then (if 0 ≤ t294 then (if t294 < (l0.length : Int) then (if (rd l0 t294) < a2 then (stepladderlaw16_InfixBack.j2 kj13 l0 a1 a2 a4 t294 true) else (if a2 = 0 then (stepladderlaw16_InfixBack.j2 kj13 l0 a1 a2 a4 t294 (t294 != (wrap64 (a1 - 1)))) else (stepladderlaw16_InfixBack.j2 kj13 l0 a1 a2 a4 t294 false))) else (none)) else (none)) else (if a2 = 0 then (stepladderlaw16_InfixBack.j2 kj13 l0 a1 a2 a4 t294 (t294 != (wrap64 (a1 - 1)))) else (stepladderlaw16_InfixBack.j2 kj13 l0 a1 a2 a4 t294 false))))) = some r := by rw [if_neg (show ¬ (false = true) by decide)] at H; exact H
              clear H
              have H := H1
              clear H1
              have HC18 := Aside0.mk H
              clear H
              go_upto_region 8 with (fail)
              go_cut [78] (fun v78 wc => ∃ (kq : Nat) (x78_17 : Bool), v78 = .bool x78_17 ∧ Aside0 (stepladderlaw16_InfixBack.j2 kq l0 a1 a2 a4 t294 x78_17 = some r) ∧ Aside0 (kq ≤ kj13) ∧ Aside0 (Below w.heap.size w wc))
              case first =>
                have H := HC18.out
                clear HC18
                by_cases c19 : t294 ≥ a1
                · rw [if_pos c19] at H
                  have c19b0 : decide (a1 ≤ t294) = true := decide_eq_true c19
                  clear c19
                  (first | rw [c19b0] | (simp only [i64_w, i32_w]; rw [c19b0]) | skip)
                  have H' := Aside0.mk H
                  clear H
                  go_wp2
                  go_meet
                  case rel => exact ⟨_, (true), (by first | rfl | (simp; done) | (simp [*]; done)), H', ⟨by have := HJ6.out; have := HJ13.out; first | omega | exact Nat.le_refl _⟩, ⟨by repeat (first | (with_reducible first | exact HB.out | apply below_alloc | apply pw_below_drewN | apply below_drew1) | exact HB.out)⟩⟩
                · rw [if_neg c19] at H
                  have c19b0 : decide (a1 ≤ t294) = false := decide_eq_false c19
                  clear c19
                  (first | rw [c19b0] | (simp only [i64_w, i32_w]; rw [c19b0]) | skip)
                  by_cases c20 : t295 > t294
                  · rw [if_pos c20] at H
                    have c20b0 : decide (t294 < t295) = true := decide_eq_true c20
                    clear c20
                    have H' := Aside0.mk H
                    clear H
                    go_wp2
                    go_meet
                    case rel => exact ⟨_, (true), (by first | rfl | (simp; done) | (simp [*]; done)), H', ⟨by have := HJ6.out; have := HJ13.out; first | omega | exact Nat.le_refl _⟩, ⟨by repeat (first | (with_reducible first | exact HB.out | apply below_alloc | apply pw_below_drewN | apply below_drew1) | exact HB.out)⟩⟩
                  · rw [if_neg c20] at H
                    have c20b0 : decide (t294 < t295) = false := decide_eq_false c20
                    clear c20
                    by_cases c21 : a2 > 0
                    · rw [if_pos c21] at H
                      have c21b0 : decide (0 < a2) = true := decide_eq_true c21
                      clear c21
                      by_cases c22 : 0 ≤ t294
                      · rw [if_pos c22] at H
                        have c22b0 : decide (0 ≤ t294) = true := decide_eq_true c22
                        clear c22
                        by_cases c23 : t294 < (l0.length : Int)
                        · rw [if_pos c23] at H
                          have c23b0 : decide (t294 < (l0.length : Int)) = true := decide_eq_true c23
                          clear c23
                          by_cases c24 : (rd l0 t294) < a2
                          · rw [if_pos c24] at H
                            have c24b0 : decide ((rd l0 t294) < a2) = true := decide_eq_true c24
                            clear c24
                            have H' := Aside0.mk H
                            clear H
                            have p296 : 0 ≤ (t294 : Int) := of_decide_eq_true (by first | (with_reducible assumption) | assumption)
                            have q296 : t294 < (l0.length : Int) := of_decide_eq_true (by first | (with_reducible assumption) | assumption)
                            obtain ⟨ad296, e296, hx296_0⟩ := Kd.at_int HR0.out t294 p296 q296
                            cases e296
                            replace hx296_0 := (HB.out.cell (World.block_lt_of_cell? w _ hx296_0)).trans hx296_0
                            replace p296 := eq_true p296
                            replace q296 := eq_true q296
                            go_wp2
                            go_meet
                            case rel => exact ⟨_, (true), (by first | rfl | (simp; done) | (simp [*]; done)), H', ⟨by have := HJ6.out; have := HJ13.out; first | omega | exact Nat.le_refl _⟩, ⟨by repeat (first | (with_reducible first | exact HB.out | apply below_alloc | apply pw_below_drewN | apply below_drew1) | exact HB.out)⟩⟩
                          · rw [if_neg c24] at H
                            have c24b0 : decide ((rd l0 t294) < a2) = false := decide_eq_false c24
                            clear c24
                            by_cases c25 : a2 = 0
                            · rw [if_pos c25] at H
                              have c25b0 : (a2 == 0) = true := beq_iff_eq.mpr c25
                              have c25b1 : (a2 != 0) = false := bne_eq_false_iff_eq.mpr c25
                              clear c25
                              have H' := Aside0.mk H
                              clear H
                              have p296 : 0 ≤ (t294 : Int) := of_decide_eq_true (by first | (with_reducible assumption) | assumption)
                              have q296 : t294 < (l0.length : Int) := of_decide_eq_true (by first | (with_reducible assumption) | assumption)
                              obtain ⟨ad296, e296, hx296_0⟩ := Kd.at_int HR0.out t294 p296 q296
                              cases e296
                              replace hx296_0 := (HB.out.cell (World.block_lt_of_cell? w _ hx296_0)).trans hx296_0
                              replace p296 := eq_true p296
                              replace q296 := eq_true q296
                              go_wp2
                              go_meet
                              case rel => exact ⟨_, ((t294 != (wrap64 (a1 - 1)))), (by first | rfl | (simp; done) | (simp [*]; done)), H', ⟨by have := HJ6.out; have := HJ13.out; first | omega | exact Nat.le_refl _⟩, ⟨by repeat (first | (with_reducible first | exact HB.out | apply below_alloc | apply pw_below_drewN | apply below_drew1) | exact HB.out)⟩⟩
                            · rw [if_neg c25] at H
                              have c25b0 : (a2 == 0) = false := beq_eq_false_iff_ne.mpr c25
                              have c25b1 : (a2 != 0) = true := bne_iff_ne.mpr c25
                              have H' := Aside0.mk H
                              clear H
                              have p296 : 0 ≤ (t294 : Int) := of_decide_eq_true (by first | (with_reducible assumption) | assumption)
                              have q296 : t294 < (l0.length : Int) := of_decide_eq_true (by first | (with_reducible assumption) | assumption)
                              obtain ⟨ad296, e296, hx296_0⟩ := Kd.at_int HR0.out t294 p296 q296
                              cases e296
                              replace hx296_0 := (HB.out.cell (World.block_lt_of_cell? w _ hx296_0)).trans hx296_0
                              replace p296 := eq_true p296
                              replace q296 := eq_true q296
                              go_wp2
                              go_meet
                              case rel => exact ⟨_, (false), (by first | rfl | (simp; done) | (simp [*]; done)), H', ⟨by have := HJ6.out; have := HJ13.out; first | omega | exact Nat.le_refl _⟩, ⟨by repeat (first | (with_reducible first | exact HB.out | apply below_alloc | apply pw_below_drewN | apply below_drew1) | exact HB.out)⟩⟩
                        · rw [if_neg c23] at H
                          exact absurd H (by simp)
                      · rw [if_neg c22] at H
                        exact absurd H (by simp)
                    · rw [if_neg c21] at H
                      have c21b0 : decide (0 < a2) = false := decide_eq_false c21
                      clear c21
                      by_cases c26 : a2 = 0
                      · rw [if_pos c26] at H
                        have c26b0 : (a2 == 0) = true := beq_iff_eq.mpr c26
                        have c26b1 : (a2 != 0) = false := bne_eq_false_iff_eq.mpr c26
                        clear c26
                        have H' := Aside0.mk H
                        clear H
                        go_wp2
                        go_meet
                        case rel => exact ⟨_, ((t294 != (wrap64 (a1 - 1)))), (by first | rfl | (simp; done) | (simp [*]; done)), H', ⟨by have := HJ6.out; have := HJ13.out; first | omega | exact Nat.le_refl _⟩, ⟨by repeat (first | (with_reducible first | exact HB.out | apply below_alloc | apply pw_below_drewN | apply below_drew1) | exact HB.out)⟩⟩
                      · rw [if_neg c26] at H
                        have c26b0 : (a2 == 0) = false := beq_eq_false_iff_ne.mpr c26
                        have c26b1 : (a2 != 0) = true := bne_iff_ne.mpr c26
                        have H' := Aside0.mk H
                        clear H
                        go_wp2
                        go_meet
                        case rel => exact ⟨_, (false), (by first | rfl | (simp; done) | (simp [*]; done)), H', ⟨by have := HJ6.out; have := HJ13.out; first | omega | exact Nat.le_refl _⟩, ⟨by repeat (first | (with_reducible first | exact HB.out | apply below_alloc | apply pw_below_drewN | apply below_drew1) | exact HB.out)⟩⟩
              case rest =>
                clear HC18
                try clear c1
                try clear c2
                try clear p2
                try clear q2
                try clear hx2
                try clear c6
                try clear p6
                try clear c9
                try clear c10
                try clear c10b0
                try clear c10b1
                try clear c11
                try clear c15
                try clear c15b0
                try clear c16
                try clear c17
                try clear c17b0
                try clear c19
                try clear c19b0
                try clear c20
                try clear c20b0
                try clear c21
                try clear c21b0
                try clear c22
                try clear c22b0
                try clear c23
                try clear c23b0
                try clear c24
                try clear c24b0
                try clear c25
                try clear c25b0
                try clear c25b1
                try clear c26
                try clear c26b0
                try clear c26b1
                try clear hx296_0
                try clear p2
                try clear p296
                try clear q296
                obtain ⟨kq, x78_17, rfl, HA, HJ17, HB⟩ := hcut
                cases kq with
                | zero => exact absurd HA.out (by simp [stepladderlaw16_InfixBack.j2])
                | succ kj17 =>
                  have H := HA.out
                  clear HA
                  simp only [stepladderlaw16_InfixBack.j2] at H
                  by_cases c27 : x78_17 = true
                  · subst c27
                    have H1 : (some false) = some r := by rw [if_pos rfl] at H; exact H
                    clear H
                    have H := H1
                    clear H1
                    obtain rfl := Option.some.inj H
                    go_wp2
                    go_ret
                    exact ⟨by first | rfl | (simp [errW_none, errW_some] <;> rfl) | (simp [*, errW_none, errW_some] <;> rfl), by repeat (first | (with_reducible first | exact HB.out | apply below_alloc | apply pw_below_drewN | apply below_drew1) | exact HB.out)⟩
                  · replace c27 := Bool.eq_false_iff.mpr c27
                    subst c27
                    have H1 : (if a4 > t294 then (if a4 < a1 then (if 0 ≤ a4 then (if a4 < (l0.length : Int) then (if (rd l0 a4) ≥ a2 then (if a2 > 0 then (some false) else ((infix_Back.f kj17 l0 a4 a2).bind fun t298 => (if a2 < 1 then (some true) else (if a4 ≤ t294 then (some true) else (if a4 ≥ a1 then (some true) else (some (decide (t298 ≤ t294)))))))) else ((infix_Back.f kj17 l0 a4 a2).bind fun t299 => (if a2 < 1 then (some true) else (if a4 ≤ t294 then (some true) else (if a4 ≥ a1 then (some true) else (some (decide (t299 ≤ t294)))))))) else (none)) else (none)) else ((infix_Back.f kj17 l0 a4 a2).bind fun t300 => (if a2 < 1 then (some true) else (if a4 ≤ t294 then (some true) else (if a4 ≥ a1 then (some true) else (some (decide (t300 ≤ t294)))))))) else ((infix_Back.f kj17 l0 a4 a2).bind fun t301 => (if a2 < 1 then (some true) else (if a4 ≤ t294 then (some true) else (if a4 ≥ a1 then (some true) else (some (decide (t301 ≤ t294)))))))) = some r := by rw [if_neg (show ¬ (false = true) by decide)] at H; exact H
                    clear H
                    have H := H1
                    clear H1
                    by_cases c28 : a4 > t294
                    · rw [if_pos c28] at H
                      have c28b0 : decide (t294 < a4) = true := decide_eq_true c28
                      clear c28
                      by_cases c29 : a4 < a1
                      · rw [if_pos c29] at H
                        have c29b0 : decide (a4 < a1) = true := decide_eq_true c29
                        clear c29
                        by_cases c30 : 0 ≤ a4
                        · rw [if_pos c30] at H
                          have c30b0 : decide (0 ≤ a4) = true := decide_eq_true c30
                          clear c30
                          by_cases c31 : a4 < (l0.length : Int)
                          · rw [if_pos c31] at H
                            have c31b0 : decide (a4 < (l0.length : Int)) = true := decide_eq_true c31
                            clear c31
                            by_cases c32 : (rd l0 a4) ≥ a2
                            · rw [if_pos c32] at H
                              have c32b0 : decide (a2 ≤ (rd l0 a4)) = true := decide_eq_true c32
                              clear c32
                              by_cases c33 : a2 > 0
                              · rw [if_pos c33] at H
                                have c33b0 : decide (0 < a2) = true := decide_eq_true c33
                                clear c33
                                obtain rfl := Option.some.inj H
                                have p297 : 0 ≤ (a4 : Int) := of_decide_eq_true (by first | (with_reducible assumption) | assumption)
                                have q297 : a4 < (l0.length : Int) := of_decide_eq_true (by first | (with_reducible assumption) | assumption)
                                obtain ⟨ad297, e297, hx297_0⟩ := Kd.at_int HR0.out a4 p297 q297
                                cases e297
                                replace hx297_0 := (HB.out.cell (World.block_lt_of_cell? w _ hx297_0)).trans hx297_0
                                replace p297 := eq_true p297
                                replace q297 := eq_true q297
                                go_wp2
                                go_ret
                                exact ⟨by first | rfl | (simp [errW_none, errW_some] <;> rfl) | (simp [*, errW_none, errW_some] <;> rfl), by repeat (first | (with_reducible first | exact HB.out | apply below_alloc | apply pw_below_drewN | apply below_drew1) | exact HB.out)⟩
                              · rw [if_neg c33] at H
                                have c33b0 : decide (0 < a2) = false := decide_eq_false c33
                                clear c33
                                replace H := Option.bind_eq_some_iff.mp H
                                obtain ⟨t298, A340, H⟩ := H
                                replace H : (if a2 < 1 then (some true) else (if a4 ≤ t294 then (some true) else (if a4 ≥ a1 then (some true) else (some (decide (t298 ≤ t294)))))) = some r := H
                                have A34 := Aside0.mk A340
                                clear A340
                                by_cases c35 : a2 < 1
                                · rw [if_pos c35] at H
                                  have c35b0 : decide (a2 < 1) = true := decide_eq_true c35
                                  clear c35
                                  obtain rfl := Option.some.inj H
                                  have p297 : 0 ≤ (a4 : Int) := of_decide_eq_true (by first | (with_reducible assumption) | assumption)
                                  have q297 : a4 < (l0.length : Int) := of_decide_eq_true (by first | (with_reducible assumption) | assumption)
                                  obtain ⟨ad297, e297, hx297_0⟩ := Kd.at_int HR0.out a4 p297 q297
                                  cases e297
                                  replace hx297_0 := (HB.out.cell (World.block_lt_of_cell? w _ hx297_0)).trans hx297_0
                                  replace p297 := eq_true p297
                                  replace q297 := eq_true q297
                                  go_wp2_with (first | ((with_reducible refine gate_callee (f := 23) rfl ?_); refine goesL_ (some 102) rfl rfl Try.func23 (by kernel_rfl) rfl #[.slice (some ad297) l0.length c0, .int .i64 a4, .int .i64 a2] rfl (by (try simp only [List.map_toArray, List.map_cons, List.map_nil]); first | done | rfl | (simp only [List.length_drop, List.length_take]; rfl)) ?_; (with_reducible refine (infix_Back.calls kj17 _ _ l0 a4 a2 t298 _ ?side1 ?side2 A34.out).mono ?_); (case side1 => repeat (first | exact (Kd.C_below HR0.out HB.out) | (with_reducible refine Kd.C_alloc ?_ _) | (with_reducible refine Kd.C_drewN ?_ _) | (with_reducible refine Kd.C_drew ?_))); (case side2 => exact HC0.out); rintro e w' ⟨rfl, ⟨nd, rfl⟩⟩; refine ⟨_, rfl, ?_⟩))
                                  go_ret
                                  exact ⟨by first | rfl | (simp [errW_none, errW_some] <;> rfl) | (simp [*, errW_none, errW_some] <;> rfl), by repeat (first | (with_reducible first | exact HB.out | apply below_alloc | apply pw_below_drewN | apply below_drew1) | exact HB.out)⟩
                                · rw [if_neg c35] at H
                                  have c35b0 : decide (a2 < 1) = false := decide_eq_false c35
                                  clear c35
                                  by_cases c36 : a4 ≤ t294
                                  · rw [if_pos c36] at H
                                    have c36b0 : decide (a4 ≤ t294) = true := decide_eq_true c36
                                    clear c36
                                    obtain rfl := Option.some.inj H
                                    have p297 : 0 ≤ (a4 : Int) := of_decide_eq_true (by first | (with_reducible assumption) | assumption)
                                    have q297 : a4 < (l0.length : Int) := of_decide_eq_true (by first | (with_reducible assumption) | assumption)
                                    obtain ⟨ad297, e297, hx297_0⟩ := Kd.at_int HR0.out a4 p297 q297
                                    cases e297
                                    replace hx297_0 := (HB.out.cell (World.block_lt_of_cell? w _ hx297_0)).trans hx297_0
                                    replace p297 := eq_true p297
                                    replace q297 := eq_true q297
                                    go_wp2_with (first | ((with_reducible refine gate_callee (f := 23) rfl ?_); refine goesL_ (some 102) rfl rfl Try.func23 (by kernel_rfl) rfl #[.slice (some ad297) l0.length c0, .int .i64 a4, .int .i64 a2] rfl (by (try simp only [List.map_toArray, List.map_cons, List.map_nil]); first | done | rfl | (simp only [List.length_drop, List.length_take]; rfl)) ?_; (with_reducible refine (infix_Back.calls kj17 _ _ l0 a4 a2 t298 _ ?side1 ?side2 A34.out).mono ?_); (case side1 => repeat (first | exact (Kd.C_below HR0.out HB.out) | (with_reducible refine Kd.C_alloc ?_ _) | (with_reducible refine Kd.C_drewN ?_ _) | (with_reducible refine Kd.C_drew ?_))); (case side2 => exact HC0.out); rintro e w' ⟨rfl, ⟨nd, rfl⟩⟩; refine ⟨_, rfl, ?_⟩))
                                    go_ret
                                    exact ⟨by first | rfl | (simp [errW_none, errW_some] <;> rfl) | (simp [*, errW_none, errW_some] <;> rfl), by repeat (first | (with_reducible first | exact HB.out | apply below_alloc | apply pw_below_drewN | apply below_drew1) | exact HB.out)⟩
                                  · rw [if_neg c36] at H
                                    have c36b0 : decide (a4 ≤ t294) = false := decide_eq_false c36
                                    clear c36
                                    by_cases c37 : a4 ≥ a1
                                    · rw [if_pos c37] at H
                                      have c37b0 : decide (a1 ≤ a4) = true := decide_eq_true c37
                                      clear c37
                                      obtain rfl := Option.some.inj H
                                      have p297 : 0 ≤ (a4 : Int) := of_decide_eq_true (by first | (with_reducible assumption) | assumption)
                                      have q297 : a4 < (l0.length : Int) := of_decide_eq_true (by first | (with_reducible assumption) | assumption)
                                      obtain ⟨ad297, e297, hx297_0⟩ := Kd.at_int HR0.out a4 p297 q297
                                      cases e297
                                      replace hx297_0 := (HB.out.cell (World.block_lt_of_cell? w _ hx297_0)).trans hx297_0
                                      replace p297 := eq_true p297
                                      replace q297 := eq_true q297
                                      go_wp2_with (first | ((with_reducible refine gate_callee (f := 23) rfl ?_); refine goesL_ (some 102) rfl rfl Try.func23 (by kernel_rfl) rfl #[.slice (some ad297) l0.length c0, .int .i64 a4, .int .i64 a2] rfl (by (try simp only [List.map_toArray, List.map_cons, List.map_nil]); first | done | rfl | (simp only [List.length_drop, List.length_take]; rfl)) ?_; (with_reducible refine (infix_Back.calls kj17 _ _ l0 a4 a2 t298 _ ?side1 ?side2 A34.out).mono ?_); (case side1 => repeat (first | exact (Kd.C_below HR0.out HB.out) | (with_reducible refine Kd.C_alloc ?_ _) | (with_reducible refine Kd.C_drewN ?_ _) | (with_reducible refine Kd.C_drew ?_))); (case side2 => exact HC0.out); rintro e w' ⟨rfl, ⟨nd, rfl⟩⟩; refine ⟨_, rfl, ?_⟩))
                                      go_ret
                                      exact ⟨by first | rfl | (simp [errW_none, errW_some] <;> rfl) | (simp [*, errW_none, errW_some] <;> rfl), by repeat (first | (with_reducible first | exact HB.out | apply below_alloc | apply pw_below_drewN | apply below_drew1) | exact HB.out)⟩
                                    · rw [if_neg c37] at H
                                      have c37b0 : decide (a1 ≤ a4) = false := decide_eq_false c37
                                      clear c37
                                      obtain rfl := Option.some.inj H
                                      have p297 : 0 ≤ (a4 : Int) := of_decide_eq_true (by first | (with_reducible assumption) | assumption)
                                      have q297 : a4 < (l0.length : Int) := of_decide_eq_true (by first | (with_reducible assumption) | assumption)
                                      obtain ⟨ad297, e297, hx297_0⟩ := Kd.at_int HR0.out a4 p297 q297
                                      cases e297
                                      replace hx297_0 := (HB.out.cell (World.block_lt_of_cell? w _ hx297_0)).trans hx297_0
                                      replace p297 := eq_true p297
                                      replace q297 := eq_true q297
                                      go_wp2_with (first | ((with_reducible refine gate_callee (f := 23) rfl ?_); refine goesL_ (some 102) rfl rfl Try.func23 (by kernel_rfl) rfl #[.slice (some ad297) l0.length c0, .int .i64 a4, .int .i64 a2] rfl (by (try simp only [List.map_toArray, List.map_cons, List.map_nil]); first | done | rfl | (simp only [List.length_drop, List.length_take]; rfl)) ?_; (with_reducible refine (infix_Back.calls kj17 _ _ l0 a4 a2 t298 _ ?side1 ?side2 A34.out).mono ?_); (case side1 => repeat (first | exact (Kd.C_below HR0.out HB.out) | (with_reducible refine Kd.C_alloc ?_ _) | (with_reducible refine Kd.C_drewN ?_ _) | (with_reducible refine Kd.C_drew ?_))); (case side2 => exact HC0.out); rintro e w' ⟨rfl, ⟨nd, rfl⟩⟩; refine ⟨_, rfl, ?_⟩))
                                      go_ret
                                      exact ⟨by first | rfl | (simp [errW_none, errW_some] <;> rfl) | (simp [*, errW_none, errW_some] <;> rfl), by repeat (first | (with_reducible first | exact HB.out | apply below_alloc | apply pw_below_drewN | apply below_drew1) | exact HB.out)⟩
                            · rw [if_neg c32] at H
                              have c32b0 : decide (a2 ≤ (rd l0 a4)) = false := decide_eq_false c32
                              clear c32
                              replace H := Option.bind_eq_some_iff.mp H
                              obtain ⟨t299, A380, H⟩ := H
                              replace H : (if a2 < 1 then (some true) else (if a4 ≤ t294 then (some true) else (if a4 ≥ a1 then (some true) else (some (decide (t299 ≤ t294)))))) = some r := H
                              have A38 := Aside0.mk A380
                              clear A380
                              by_cases c39 : a2 < 1
                              · rw [if_pos c39] at H
                                have c39b0 : decide (a2 < 1) = true := decide_eq_true c39
                                clear c39
                                obtain rfl := Option.some.inj H
                                have p297 : 0 ≤ (a4 : Int) := of_decide_eq_true (by first | (with_reducible assumption) | assumption)
                                have q297 : a4 < (l0.length : Int) := of_decide_eq_true (by first | (with_reducible assumption) | assumption)
                                obtain ⟨ad297, e297, hx297_0⟩ := Kd.at_int HR0.out a4 p297 q297
                                cases e297
                                replace hx297_0 := (HB.out.cell (World.block_lt_of_cell? w _ hx297_0)).trans hx297_0
                                replace p297 := eq_true p297
                                replace q297 := eq_true q297
                                go_wp2_with (first | ((with_reducible refine gate_callee (f := 23) rfl ?_); refine goesL_ (some 102) rfl rfl Try.func23 (by kernel_rfl) rfl #[.slice (some ad297) l0.length c0, .int .i64 a4, .int .i64 a2] rfl (by (try simp only [List.map_toArray, List.map_cons, List.map_nil]); first | done | rfl | (simp only [List.length_drop, List.length_take]; rfl)) ?_; (with_reducible refine (infix_Back.calls kj17 _ _ l0 a4 a2 t299 _ ?side1 ?side2 A38.out).mono ?_); (case side1 => repeat (first | exact (Kd.C_below HR0.out HB.out) | (with_reducible refine Kd.C_alloc ?_ _) | (with_reducible refine Kd.C_drewN ?_ _) | (with_reducible refine Kd.C_drew ?_))); (case side2 => exact HC0.out); rintro e w' ⟨rfl, ⟨nd, rfl⟩⟩; refine ⟨_, rfl, ?_⟩))
                                go_ret
                                exact ⟨by first | rfl | (simp [errW_none, errW_some] <;> rfl) | (simp [*, errW_none, errW_some] <;> rfl), by repeat (first | (with_reducible first | exact HB.out | apply below_alloc | apply pw_below_drewN | apply below_drew1) | exact HB.out)⟩
                              · rw [if_neg c39] at H
                                have c39b0 : decide (a2 < 1) = false := decide_eq_false c39
                                clear c39
                                by_cases c40 : a4 ≤ t294
                                · rw [if_pos c40] at H
                                  have c40b0 : decide (a4 ≤ t294) = true := decide_eq_true c40
                                  clear c40
                                  obtain rfl := Option.some.inj H
                                  have p297 : 0 ≤ (a4 : Int) := of_decide_eq_true (by first | (with_reducible assumption) | assumption)
                                  have q297 : a4 < (l0.length : Int) := of_decide_eq_true (by first | (with_reducible assumption) | assumption)
                                  obtain ⟨ad297, e297, hx297_0⟩ := Kd.at_int HR0.out a4 p297 q297
                                  cases e297
                                  replace hx297_0 := (HB.out.cell (World.block_lt_of_cell? w _ hx297_0)).trans hx297_0
                                  replace p297 := eq_true p297
                                  replace q297 := eq_true q297
                                  go_wp2_with (first | ((with_reducible refine gate_callee (f := 23) rfl ?_); refine goesL_ (some 102) rfl rfl Try.func23 (by kernel_rfl) rfl #[.slice (some ad297) l0.length c0, .int .i64 a4, .int .i64 a2] rfl (by (try simp only [List.map_toArray, List.map_cons, List.map_nil]); first | done | rfl | (simp only [List.length_drop, List.length_take]; rfl)) ?_; (with_reducible refine (infix_Back.calls kj17 _ _ l0 a4 a2 t299 _ ?side1 ?side2 A38.out).mono ?_); (case side1 => repeat (first | exact (Kd.C_below HR0.out HB.out) | (with_reducible refine Kd.C_alloc ?_ _) | (with_reducible refine Kd.C_drewN ?_ _) | (with_reducible refine Kd.C_drew ?_))); (case side2 => exact HC0.out); rintro e w' ⟨rfl, ⟨nd, rfl⟩⟩; refine ⟨_, rfl, ?_⟩))
                                  go_ret
                                  exact ⟨by first | rfl | (simp [errW_none, errW_some] <;> rfl) | (simp [*, errW_none, errW_some] <;> rfl), by repeat (first | (with_reducible first | exact HB.out | apply below_alloc | apply pw_below_drewN | apply below_drew1) | exact HB.out)⟩
                                · rw [if_neg c40] at H
                                  have c40b0 : decide (a4 ≤ t294) = false := decide_eq_false c40
                                  clear c40
                                  by_cases c41 : a4 ≥ a1
                                  · rw [if_pos c41] at H
                                    have c41b0 : decide (a1 ≤ a4) = true := decide_eq_true c41
                                    clear c41
                                    obtain rfl := Option.some.inj H
                                    have p297 : 0 ≤ (a4 : Int) := of_decide_eq_true (by first | (with_reducible assumption) | assumption)
                                    have q297 : a4 < (l0.length : Int) := of_decide_eq_true (by first | (with_reducible assumption) | assumption)
                                    obtain ⟨ad297, e297, hx297_0⟩ := Kd.at_int HR0.out a4 p297 q297
                                    cases e297
                                    replace hx297_0 := (HB.out.cell (World.block_lt_of_cell? w _ hx297_0)).trans hx297_0
                                    replace p297 := eq_true p297
                                    replace q297 := eq_true q297
                                    go_wp2_with (first | ((with_reducible refine gate_callee (f := 23) rfl ?_); refine goesL_ (some 102) rfl rfl Try.func23 (by kernel_rfl) rfl #[.slice (some ad297) l0.length c0, .int .i64 a4, .int .i64 a2] rfl (by (try simp only [List.map_toArray, List.map_cons, List.map_nil]); first | done | rfl | (simp only [List.length_drop, List.length_take]; rfl)) ?_; (with_reducible refine (infix_Back.calls kj17 _ _ l0 a4 a2 t299 _ ?side1 ?side2 A38.out).mono ?_); (case side1 => repeat (first | exact (Kd.C_below HR0.out HB.out) | (with_reducible refine Kd.C_alloc ?_ _) | (with_reducible refine Kd.C_drewN ?_ _) | (with_reducible refine Kd.C_drew ?_))); (case side2 => exact HC0.out); rintro e w' ⟨rfl, ⟨nd, rfl⟩⟩; refine ⟨_, rfl, ?_⟩))
                                    go_ret
                                    exact ⟨by first | rfl | (simp [errW_none, errW_some] <;> rfl) | (simp [*, errW_none, errW_some] <;> rfl), by repeat (first | (with_reducible first | exact HB.out | apply below_alloc | apply pw_below_drewN | apply below_drew1) | exact HB.out)⟩
                                  · rw [if_neg c41] at H
                                    have c41b0 : decide (a1 ≤ a4) = false := decide_eq_false c41
                                    clear c41
                                    obtain rfl := Option.some.inj H
                                    have p297 : 0 ≤ (a4 : Int) := of_decide_eq_true (by first | (with_reducible assumption) | assumption)
                                    have q297 : a4 < (l0.length : Int) := of_decide_eq_true (by first | (with_reducible assumption) | assumption)
                                    obtain ⟨ad297, e297, hx297_0⟩ := Kd.at_int HR0.out a4 p297 q297
                                    cases e297
                                    replace hx297_0 := (HB.out.cell (World.block_lt_of_cell? w _ hx297_0)).trans hx297_0
                                    replace p297 := eq_true p297
                                    replace q297 := eq_true q297
                                    go_wp2_with (first | ((with_reducible refine gate_callee (f := 23) rfl ?_); refine goesL_ (some 102) rfl rfl Try.func23 (by kernel_rfl) rfl #[.slice (some ad297) l0.length c0, .int .i64 a4, .int .i64 a2] rfl (by (try simp only [List.map_toArray, List.map_cons, List.map_nil]); first | done | rfl | (simp only [List.length_drop, List.length_take]; rfl)) ?_; (with_reducible refine (infix_Back.calls kj17 _ _ l0 a4 a2 t299 _ ?side1 ?side2 A38.out).mono ?_); (case side1 => repeat (first | exact (Kd.C_below HR0.out HB.out) | (with_reducible refine Kd.C_alloc ?_ _) | (with_reducible refine Kd.C_drewN ?_ _) | (with_reducible refine Kd.C_drew ?_))); (case side2 => exact HC0.out); rintro e w' ⟨rfl, ⟨nd, rfl⟩⟩; refine ⟨_, rfl, ?_⟩))
                                    go_ret
                                    exact ⟨by first | rfl | (simp [errW_none, errW_some] <;> rfl) | (simp [*, errW_none, errW_some] <;> rfl), by repeat (first | (with_reducible first | exact HB.out | apply below_alloc | apply pw_below_drewN | apply below_drew1) | exact HB.out)⟩
                          · rw [if_neg c31] at H
                            exact absurd H (by simp)
                        · rw [if_neg c30] at H
                          exact absurd H (by simp)
                      · rw [if_neg c29] at H
                        have c29b0 : decide (a4 < a1) = false := decide_eq_false c29
                        clear c29
                        replace H := Option.bind_eq_some_iff.mp H
                        obtain ⟨t300, A420, H⟩ := H
                        replace H : (if a2 < 1 then (some true) else (if a4 ≤ t294 then (some true) else (if a4 ≥ a1 then (some true) else (some (decide (t300 ≤ t294)))))) = some r := H
                        have A42 := Aside0.mk A420
                        clear A420
                        by_cases c43 : a2 < 1
                        · rw [if_pos c43] at H
                          have c43b0 : decide (a2 < 1) = true := decide_eq_true c43
                          clear c43
                          obtain rfl := Option.some.inj H
                          go_wp2_with (first | ((with_reducible refine gate_callee (f := 23) rfl ?_); refine goesL_ (some 102) rfl rfl Try.func23 (by kernel_rfl) rfl #[.slice A0 l0.length c0, .int .i64 a4, .int .i64 a2] rfl (by (try simp only [List.map_toArray, List.map_cons, List.map_nil]); first | done | rfl | (simp only [List.length_drop, List.length_take]; rfl)) ?_; (with_reducible refine (infix_Back.calls kj17 _ _ l0 a4 a2 t300 _ ?side1 ?side2 A42.out).mono ?_); (case side1 => repeat (first | exact (Kd.C_below HR0.out HB.out) | (with_reducible refine Kd.C_alloc ?_ _) | (with_reducible refine Kd.C_drewN ?_ _) | (with_reducible refine Kd.C_drew ?_))); (case side2 => exact HC0.out); rintro e w' ⟨rfl, ⟨nd, rfl⟩⟩; refine ⟨_, rfl, ?_⟩))
                          go_ret
                          exact ⟨by first | rfl | (simp [errW_none, errW_some] <;> rfl) | (simp [*, errW_none, errW_some] <;> rfl), by repeat (first | (with_reducible first | exact HB.out | apply below_alloc | apply pw_below_drewN | apply below_drew1) | exact HB.out)⟩
                        · rw [if_neg c43] at H
                          have c43b0 : decide (a2 < 1) = false := decide_eq_false c43
                          clear c43
                          by_cases c44 : a4 ≤ t294
                          · rw [if_pos c44] at H
                            have c44b0 : decide (a4 ≤ t294) = true := decide_eq_true c44
                            clear c44
                            obtain rfl := Option.some.inj H
                            go_wp2_with (first | ((with_reducible refine gate_callee (f := 23) rfl ?_); refine goesL_ (some 102) rfl rfl Try.func23 (by kernel_rfl) rfl #[.slice A0 l0.length c0, .int .i64 a4, .int .i64 a2] rfl (by (try simp only [List.map_toArray, List.map_cons, List.map_nil]); first | done | rfl | (simp only [List.length_drop, List.length_take]; rfl)) ?_; (with_reducible refine (infix_Back.calls kj17 _ _ l0 a4 a2 t300 _ ?side1 ?side2 A42.out).mono ?_); (case side1 => repeat (first | exact (Kd.C_below HR0.out HB.out) | (with_reducible refine Kd.C_alloc ?_ _) | (with_reducible refine Kd.C_drewN ?_ _) | (with_reducible refine Kd.C_drew ?_))); (case side2 => exact HC0.out); rintro e w' ⟨rfl, ⟨nd, rfl⟩⟩; refine ⟨_, rfl, ?_⟩))
                            go_ret
                            exact ⟨by first | rfl | (simp [errW_none, errW_some] <;> rfl) | (simp [*, errW_none, errW_some] <;> rfl), by repeat (first | (with_reducible first | exact HB.out | apply below_alloc | apply pw_below_drewN | apply below_drew1) | exact HB.out)⟩
                          · rw [if_neg c44] at H
                            have c44b0 : decide (a4 ≤ t294) = false := decide_eq_false c44
                            clear c44
                            by_cases c45 : a4 ≥ a1
                            · rw [if_pos c45] at H
                              have c45b0 : decide (a1 ≤ a4) = true := decide_eq_true c45
                              clear c45
                              obtain rfl := Option.some.inj H
                              go_wp2_with (first | ((with_reducible refine gate_callee (f := 23) rfl ?_); refine goesL_ (some 102) rfl rfl Try.func23 (by kernel_rfl) rfl #[.slice A0 l0.length c0, .int .i64 a4, .int .i64 a2] rfl (by (try simp only [List.map_toArray, List.map_cons, List.map_nil]); first | done | rfl | (simp only [List.length_drop, List.length_take]; rfl)) ?_; (with_reducible refine (infix_Back.calls kj17 _ _ l0 a4 a2 t300 _ ?side1 ?side2 A42.out).mono ?_); (case side1 => repeat (first | exact (Kd.C_below HR0.out HB.out) | (with_reducible refine Kd.C_alloc ?_ _) | (with_reducible refine Kd.C_drewN ?_ _) | (with_reducible refine Kd.C_drew ?_))); (case side2 => exact HC0.out); rintro e w' ⟨rfl, ⟨nd, rfl⟩⟩; refine ⟨_, rfl, ?_⟩))
                              go_ret
                              exact ⟨by first | rfl | (simp [errW_none, errW_some] <;> rfl) | (simp [*, errW_none, errW_some] <;> rfl), by repeat (first | (with_reducible first | exact HB.out | apply below_alloc | apply pw_below_drewN | apply below_drew1) | exact HB.out)⟩
                            · rw [if_neg c45] at H
                              have c45b0 : decide (a1 ≤ a4) = false := decide_eq_false c45
                              clear c45
                              obtain rfl := Option.some.inj H
                              go_wp2_with (first | ((with_reducible refine gate_callee (f := 23) rfl ?_); refine goesL_ (some 102) rfl rfl Try.func23 (by kernel_rfl) rfl #[.slice A0 l0.length c0, .int .i64 a4, .int .i64 a2] rfl (by (try simp only [List.map_toArray, List.map_cons, List.map_nil]); first | done | rfl | (simp only [List.length_drop, List.length_take]; rfl)) ?_; (with_reducible refine (infix_Back.calls kj17 _ _ l0 a4 a2 t300 _ ?side1 ?side2 A42.out).mono ?_); (case side1 => repeat (first | exact (Kd.C_below HR0.out HB.out) | (with_reducible refine Kd.C_alloc ?_ _) | (with_reducible refine Kd.C_drewN ?_ _) | (with_reducible refine Kd.C_drew ?_))); (case side2 => exact HC0.out); rintro e w' ⟨rfl, ⟨nd, rfl⟩⟩; refine ⟨_, rfl, ?_⟩))
                              go_ret
                              exact ⟨by first | rfl | (simp [errW_none, errW_some] <;> rfl) | (simp [*, errW_none, errW_some] <;> rfl), by repeat (first | (with_reducible first | exact HB.out | apply below_alloc | apply pw_below_drewN | apply below_drew1) | exact HB.out)⟩
                    · rw [if_neg c28] at H
                      have c28b0 : decide (t294 < a4) = false := decide_eq_false c28
                      clear c28
                      replace H := Option.bind_eq_some_iff.mp H
                      obtain ⟨t301, A460, H⟩ := H
                      replace H : (if a2 < 1 then (some true) else (if a4 ≤ t294 then (some true) else (if a4 ≥ a1 then (some true) else (some (decide (t301 ≤ t294)))))) = some r := H
                      have A46 := Aside0.mk A460
                      clear A460
                      by_cases c47 : a2 < 1
                      · rw [if_pos c47] at H
                        have c47b0 : decide (a2 < 1) = true := decide_eq_true c47
                        clear c47
                        obtain rfl := Option.some.inj H
                        go_wp2_with (first | ((with_reducible refine gate_callee (f := 23) rfl ?_); refine goesL_ (some 102) rfl rfl Try.func23 (by kernel_rfl) rfl #[.slice A0 l0.length c0, .int .i64 a4, .int .i64 a2] rfl (by (try simp only [List.map_toArray, List.map_cons, List.map_nil]); first | done | rfl | (simp only [List.length_drop, List.length_take]; rfl)) ?_; (with_reducible refine (infix_Back.calls kj17 _ _ l0 a4 a2 t301 _ ?side1 ?side2 A46.out).mono ?_); (case side1 => repeat (first | exact (Kd.C_below HR0.out HB.out) | (with_reducible refine Kd.C_alloc ?_ _) | (with_reducible refine Kd.C_drewN ?_ _) | (with_reducible refine Kd.C_drew ?_))); (case side2 => exact HC0.out); rintro e w' ⟨rfl, ⟨nd, rfl⟩⟩; refine ⟨_, rfl, ?_⟩))
                        go_ret
                        exact ⟨by first | rfl | (simp [errW_none, errW_some] <;> rfl) | (simp [*, errW_none, errW_some] <;> rfl), by repeat (first | (with_reducible first | exact HB.out | apply below_alloc | apply pw_below_drewN | apply below_drew1) | exact HB.out)⟩
                      · rw [if_neg c47] at H
                        have c47b0 : decide (a2 < 1) = false := decide_eq_false c47
                        clear c47
                        by_cases c48 : a4 ≤ t294
                        · rw [if_pos c48] at H
                          have c48b0 : decide (a4 ≤ t294) = true := decide_eq_true c48
                          clear c48
                          obtain rfl := Option.some.inj H
                          go_wp2_with (first | ((with_reducible refine gate_callee (f := 23) rfl ?_); refine goesL_ (some 102) rfl rfl Try.func23 (by kernel_rfl) rfl #[.slice A0 l0.length c0, .int .i64 a4, .int .i64 a2] rfl (by (try simp only [List.map_toArray, List.map_cons, List.map_nil]); first | done | rfl | (simp only [List.length_drop, List.length_take]; rfl)) ?_; (with_reducible refine (infix_Back.calls kj17 _ _ l0 a4 a2 t301 _ ?side1 ?side2 A46.out).mono ?_); (case side1 => repeat (first | exact (Kd.C_below HR0.out HB.out) | (with_reducible refine Kd.C_alloc ?_ _) | (with_reducible refine Kd.C_drewN ?_ _) | (with_reducible refine Kd.C_drew ?_))); (case side2 => exact HC0.out); rintro e w' ⟨rfl, ⟨nd, rfl⟩⟩; refine ⟨_, rfl, ?_⟩))
                          go_ret
                          exact ⟨by first | rfl | (simp [errW_none, errW_some] <;> rfl) | (simp [*, errW_none, errW_some] <;> rfl), by repeat (first | (with_reducible first | exact HB.out | apply below_alloc | apply pw_below_drewN | apply below_drew1) | exact HB.out)⟩
                        · rw [if_neg c48] at H
                          have c48b0 : decide (a4 ≤ t294) = false := decide_eq_false c48
                          clear c48
                          by_cases c49 : a4 ≥ a1
                          · rw [if_pos c49] at H
                            have c49b0 : decide (a1 ≤ a4) = true := decide_eq_true c49
                            clear c49
                            obtain rfl := Option.some.inj H
                            go_wp2_with (first | ((with_reducible refine gate_callee (f := 23) rfl ?_); refine goesL_ (some 102) rfl rfl Try.func23 (by kernel_rfl) rfl #[.slice A0 l0.length c0, .int .i64 a4, .int .i64 a2] rfl (by (try simp only [List.map_toArray, List.map_cons, List.map_nil]); first | done | rfl | (simp only [List.length_drop, List.length_take]; rfl)) ?_; (with_reducible refine (infix_Back.calls kj17 _ _ l0 a4 a2 t301 _ ?side1 ?side2 A46.out).mono ?_); (case side1 => repeat (first | exact (Kd.C_below HR0.out HB.out) | (with_reducible refine Kd.C_alloc ?_ _) | (with_reducible refine Kd.C_drewN ?_ _) | (with_reducible refine Kd.C_drew ?_))); (case side2 => exact HC0.out); rintro e w' ⟨rfl, ⟨nd, rfl⟩⟩; refine ⟨_, rfl, ?_⟩))
                            go_ret
                            exact ⟨by first | rfl | (simp [errW_none, errW_some] <;> rfl) | (simp [*, errW_none, errW_some] <;> rfl), by repeat (first | (with_reducible first | exact HB.out | apply below_alloc | apply pw_below_drewN | apply below_drew1) | exact HB.out)⟩
                          · rw [if_neg c49] at H
                            have c49b0 : decide (a1 ≤ a4) = false := decide_eq_false c49
                            clear c49
                            obtain rfl := Option.some.inj H
                            go_wp2_with (first | ((with_reducible refine gate_callee (f := 23) rfl ?_); refine goesL_ (some 102) rfl rfl Try.func23 (by kernel_rfl) rfl #[.slice A0 l0.length c0, .int .i64 a4, .int .i64 a2] rfl (by (try simp only [List.map_toArray, List.map_cons, List.map_nil]); first | done | rfl | (simp only [List.length_drop, List.length_take]; rfl)) ?_; (with_reducible refine (infix_Back.calls kj17 _ _ l0 a4 a2 t301 _ ?side1 ?side2 A46.out).mono ?_); (case side1 => repeat (first | exact (Kd.C_below HR0.out HB.out) | (with_reducible refine Kd.C_alloc ?_ _) | (with_reducible refine Kd.C_drewN ?_ _) | (with_reducible refine Kd.C_drew ?_))); (case side2 => exact HC0.out); rintro e w' ⟨rfl, ⟨nd, rfl⟩⟩; refine ⟨_, rfl, ?_⟩))
                            go_ret
                            exact ⟨by first | rfl | (simp [errW_none, errW_some] <;> rfl) | (simp [*, errW_none, errW_some] <;> rfl), by repeat (first | (with_reducible first | exact HB.out | apply below_alloc | apply pw_below_drewN | apply below_drew1) | exact HB.out)⟩

/-- THE ONE PURE STATEMENT of stepladderlaw16_InfixBack: yours. -/
def stepladderlaw16_InfixBack.Pure : Prop := ∀ (l0 : List Int) (a1 : Int) (a2 : Int) (a3 : Int) (a4 : Int), l0.length ≤ maxLen → l0.length * 8 ≤ 140737488351232 → (∀ x ∈ l0, (Lit.int .i64 x).wf = true) → (Lit.int .i64 a1).wf = true → (Lit.int .i64 a2).wf = true → (Lit.int .i64 a3).wf = true → (Lit.int .i64 a4).wf = true → ∃ k, stepladderlaw16_InfixBack.f k l0 a1 a2 a3 a4 = some true
theorem stepladderlaw16_InfixBack.walk (P : stepladderlaw16_InfixBack.Pure) (a0 : Option Addr) (len0 cap0 : Nat) (z0 : List Int) (a1 : Int) (a2 : Int) (a3 : Int) (a4 : Int) (w : World) (w0 : (a0 = none ∧ len0 = 0 ∧ cap0 = 0 ∧ z0 = []) ∨ ∃ x, a0 = some x ∧ len0 ≤ cap0 ∧ cap0 ≤ maxLen ∧ z0.length = cap0 ∧ (∀ i, i < z0.length → w.cell? (x.add i) = some (.int .i64 (z0.getD i 0))) ∧ ∀ n ∈ z0, (Lit.int .i64 n).wf = true) (y0 : len0 * 8 ≤ 140737488351232) (w1 : (Lit.int .i64 a1).wf = true) (w2 : (Lit.int .i64 a2).wf = true) (w3 : (Lit.int .i64 a3).wf = true) (w4 : (Lit.int .i64 a4).wf = true) :
    Calls Try.prog 6 #[.slice a0 len0 cap0, .int .i64 a1, .int .i64 a2, .int .i64 a3, .int .i64 a4] w fun e w' => e = .returned (.bool true) ∧ Below w.heap.size w w' := by
  obtain ⟨l0, rfl, hr0, hm0, hw0, hc0⟩ := ReadsInt.ofRowC w0
  obtain ⟨k, h⟩ := P l0 a1 a2 a3 a4 hm0 y0 hw0 w1 w2 w3 w4
  refine (stepladderlaw16_InfixBack.calls k _ _ l0 a1 a2 a3 a4 true w (Kd.C_of_reads (d := (0 : Int)) (h1 := fun _ => rfl) hr0) hc0 h).mono ?_
  rintro e w' ⟨rfl, hd⟩
  exact ⟨rfl, hd⟩

end Go.Proofs.Ytgjkjndfnjabeaa.X
