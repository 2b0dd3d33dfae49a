-- By this session's own program (wip/tools/xprint.py), over the kit's print. Not trusted: Lean checks it.
import Derived.Test.YtfbhgbnpppbiiaaX0
import Derived.Test.YtfbhgbnpppbiiaaXgoodFair
import Derived.Test.YtfbhgbnpppbiiaaXgoodCount
import Derived.Test.YtfbhgbnpppbiiaaXstepladderlaw15awake
import Derived.Test.YtfbhgbnpppbiiaaXsuperMay
namespace Go.Proofs.Ytfbhgbnpppbiiaa.X
open Go.RowKit Go.Proofs.YtfbhgbnpppbiiaaW.PrintWords Go.Proofs.YtfbhgbnpppbiiaaW.PrintLast Go.Proofs.YtfbhgbnpppbiiaaW.PrintMore
attribute [local go_sem] max2_int min2_int max_two min_two max_three min_three max_four min_four   -- for this text's walks alone
set_option linter.unusedVariables false
set_option linter.unusedSimpArgs false

/-! ### stepladderlaw15_GoodFair: function 7 -/
mutual
def stepladderlaw15_GoodFair.j0 : Nat → List Int → Int → Int → Int → Bool → Bool → Option (Bool)
  | 0, _, _, _, _, _, _ => none
  | k + 1, x0, x1, x2, x3, x9, x37 => if x37 = true then (some x9) else ((good_Count.f k x0 0 x1).bind fun t171 => (if t171 < x2 then ((good_Fair.f x0 x1 x2).bind fun t172 => (stepladderlaw15_GoodFair.j1 k x0 x1 x2 x3 (!t172))) else (stepladderlaw15_GoodFair.j1 k x0 x1 x2 x3 false)))
def stepladderlaw15_GoodFair.j1 : Nat → List Int → Int → Int → Int → Bool → Option (Bool)
  | 0, _, _, _, _, _ => none
  | k + 1, x0, x1, x2, x3, x50 => if x50 = true then (some false) else ((good_Count.f k x0 x3 x1).bind fun t173 => ((good_Fair.f x0 x1 x2).bind fun t174 => (if t174 = true then (if x3 < 0 then (stepladderlaw15_GoodFair.j2 k x0 x1 x3 t173 true) else (if x3 ≥ (x0.length : Int) then (stepladderlaw15_GoodFair.j2 k x0 x1 x3 t173 true) else (if 0 ≤ x3 then (if x3 < (x0.length : Int) then (if (rd x0 x3) < x1 then (stepladderlaw15_GoodFair.j2 k x0 x1 x3 t173 true) else (stepladderlaw15_GoodFair.j2 k x0 x1 x3 t173 (decide (t173 < x2)))) else (none)) else (none)))) else (stepladderlaw15_GoodFair.j2 k x0 x1 x3 t173 true))))
def stepladderlaw15_GoodFair.j2 : Nat → List Int → Int → Int → Int → Bool → Option (Bool)
  | 0, _, _, _, _, _ => none
  | k + 1, x0, x1, x3, x10, x82 => if x82 = true then (some true) else (stepladderlaw15_GoodFair.l0 k x0 x1 x3 x10 2 0)
def stepladderlaw15_GoodFair.l0 : Nat → List Int → Int → Int → Int → Int → Int → Option (Bool)
  | 0, _, _, _, _, _, _ => none
  | k + 1, x0, x1, x3, x10, x11, x12 => if x12 < x1 then (stepladderlaw15_GoodFair.l0 k x0 x1 x3 x10 (wrap64 (2 * x11)) (wrap64 (x12 + 1))) else (some (decide ((wrap64 (x11 * x10)) > (wrap64 ((x0.length : Int) - x3)))))
end
def stepladderlaw15_GoodFair.f (k : Nat) (l0 : List Int) (a1 : Int) (a2 : Int) (a3 : Int) : Option (Bool) := (stepladderlaw15_awake.f k).bind fun t169 => (if t169 = true then (if (l0.length : Int) > 210 then (stepladderlaw15_GoodFair.j0 k l0 a1 a2 a3 t169 true) else (if a1 < 0 then (stepladderlaw15_GoodFair.j0 k l0 a1 a2 a3 t169 true) else (if a1 > 31 then (stepladderlaw15_GoodFair.j0 k l0 a1 a2 a3 t169 true) else (if a2 < 1 then (stepladderlaw15_GoodFair.j0 k l0 a1 a2 a3 t169 true) else ((super_May.f l0).bind fun t170 => (stepladderlaw15_GoodFair.j0 k l0 a1 a2 a3 t169 (!t170))))))) else (stepladderlaw15_GoodFair.j0 k l0 a1 a2 a3 t169 true))
theorem stepladderlaw15_GoodFair.mono_l : ∀ k, (∀ y0 y1 y2 y3 y4 y5, LeO (stepladderlaw15_GoodFair.j0 k y0 y1 y2 y3 y4 y5) (stepladderlaw15_GoodFair.j0 (k + 1) y0 y1 y2 y3 y4 y5)) ∧ (∀ y0 y1 y2 y3 y4, LeO (stepladderlaw15_GoodFair.j1 k y0 y1 y2 y3 y4) (stepladderlaw15_GoodFair.j1 (k + 1) y0 y1 y2 y3 y4)) ∧ (∀ y0 y1 y2 y3 y4, LeO (stepladderlaw15_GoodFair.j2 k y0 y1 y2 y3 y4) (stepladderlaw15_GoodFair.j2 (k + 1) y0 y1 y2 y3 y4)) ∧ (∀ y0 y1 y2 y3 y4 y5, LeO (stepladderlaw15_GoodFair.l0 k y0 y1 y2 y3 y4 y5) (stepladderlaw15_GoodFair.l0 (k + 1) y0 y1 y2 y3 y4 y5))
  | 0 => ⟨fun _ _ _ _ _ _ r h => by simp [stepladderlaw15_GoodFair.j0] at h, fun _ _ _ _ _ r h => by simp [stepladderlaw15_GoodFair.j1] at h, fun _ _ _ _ _ r h => by simp [stepladderlaw15_GoodFair.j2] at h, fun _ _ _ _ _ _ r h => by simp [stepladderlaw15_GoodFair.l0] at h⟩
  | k + 1 => by
    obtain ⟨ih0, ih1, ih2, ih3⟩ := stepladderlaw15_GoodFair.mono_l k
    refine ⟨?_, ?_, ?_, ?_⟩
    · intro y0 y1 y2 y3 y4 y5
      unfold stepladderlaw15_GoodFair.j0
      repeat' first
      | (with_reducible exact ih0 _ _ _ _ _ _)
      | (with_reducible exact ih1 _ _ _ _ _)
      | (with_reducible exact ih2 _ _ _ _ _)
      | (with_reducible exact ih3 _ _ _ _ _ _)
      | (with_reducible exact good_Count.mono _ _ _ _)
      | (with_reducible exact stepladderlaw15_awake.mono _)
      | (with_reducible exact LeO.refl _)
      | (with_reducible exact LeO.none _)
      | (with_reducible refine LeO.ite ?_ ?_)
      | (with_reducible refine LeO.bind ?_ (fun _ => ?_))
      | exact ih0 _ _ _ _ _ _
      | exact ih1 _ _ _ _ _
      | exact ih2 _ _ _ _ _
      | exact ih3 _ _ _ _ _ _
      | exact good_Count.mono _ _ _ _
      | exact stepladderlaw15_awake.mono _
      | exact LeO.none _
      | refine LeO.ite ?_ ?_
      | refine LeO.bind ?_ (fun _ => ?_)
    · intro y0 y1 y2 y3 y4
      unfold stepladderlaw15_GoodFair.j1
      repeat' first
      | (with_reducible exact ih0 _ _ _ _ _ _)
      | (with_reducible exact ih1 _ _ _ _ _)
      | (with_reducible exact ih2 _ _ _ _ _)
      | (with_reducible exact ih3 _ _ _ _ _ _)
      | (with_reducible exact good_Count.mono _ _ _ _)
      | (with_reducible exact stepladderlaw15_awake.mono _)
      | (with_reducible exact LeO.refl _)
      | (with_reducible exact LeO.none _)
      | (with_reducible refine LeO.ite ?_ ?_)
      | (with_reducible refine LeO.bind ?_ (fun _ => ?_))
      | exact ih0 _ _ _ _ _ _
      | exact ih1 _ _ _ _ _
      | exact ih2 _ _ _ _ _
      | exact ih3 _ _ _ _ _ _
      | exact good_Count.mono _ _ _ _
      | exact stepladderlaw15_awake.mono _
      | exact LeO.none _
      | refine LeO.ite ?_ ?_
      | refine LeO.bind ?_ (fun _ => ?_)
    · intro y0 y1 y2 y3 y4
      unfold stepladderlaw15_GoodFair.j2
      repeat' first
      | (with_reducible exact ih0 _ _ _ _ _ _)
      | (with_reducible exact ih1 _ _ _ _ _)
      | (with_reducible exact ih2 _ _ _ _ _)
      | (with_reducible exact ih3 _ _ _ _ _ _)
      | (with_reducible exact good_Count.mono _ _ _ _)
      | (with_reducible exact stepladderlaw15_awake.mono _)
      | (with_reducible exact LeO.refl _)
      | (with_reducible exact LeO.none _)
      | (with_reducible refine LeO.ite ?_ ?_)
      | (with_reducible refine LeO.bind ?_ (fun _ => ?_))
      | exact ih0 _ _ _ _ _ _
      | exact ih1 _ _ _ _ _
      | exact ih2 _ _ _ _ _
      | exact ih3 _ _ _ _ _ _
      | exact good_Count.mono _ _ _ _
      | exact stepladderlaw15_awake.mono _
      | exact LeO.none _
      | refine LeO.ite ?_ ?_
      | refine LeO.bind ?_ (fun _ => ?_)
    · intro y0 y1 y2 y3 y4 y5
      unfold stepladderlaw15_GoodFair.l0
      repeat' first
      | (with_reducible exact ih0 _ _ _ _ _ _)
      | (with_reducible exact ih1 _ _ _ _ _)
      | (with_reducible exact ih2 _ _ _ _ _)
      | (with_reducible exact ih3 _ _ _ _ _ _)
      | (with_reducible exact good_Count.mono _ _ _ _)
      | (with_reducible exact stepladderlaw15_awake.mono _)
      | (with_reducible exact LeO.refl _)
      | (with_reducible exact LeO.none _)
      | (with_reducible refine LeO.ite ?_ ?_)
      | (with_reducible refine LeO.bind ?_ (fun _ => ?_))
      | exact ih0 _ _ _ _ _ _
      | exact ih1 _ _ _ _ _
      | exact ih2 _ _ _ _ _
      | exact ih3 _ _ _ _ _ _
      | exact good_Count.mono _ _ _ _
      | exact stepladderlaw15_awake.mono _
      | exact LeO.none _
      | refine LeO.ite ?_ ?_
      | refine LeO.bind ?_ (fun _ => ?_)
theorem stepladderlaw15_GoodFair.mono : ∀ a0 a1 a2 a3 k, LeO (stepladderlaw15_GoodFair.f k a0 a1 a2 a3) (stepladderlaw15_GoodFair.f (k + 1) a0 a1 a2 a3) := by
  intro a0 a1 a2 a3 k
  obtain ⟨ih0, ih1, ih2, ih3⟩ := stepladderlaw15_GoodFair.mono_l k
  unfold stepladderlaw15_GoodFair.f
  repeat' first
      | (with_reducible exact ih0 _ _ _ _ _ _)
      | (with_reducible exact ih1 _ _ _ _ _)
      | (with_reducible exact ih2 _ _ _ _ _)
      | (with_reducible exact ih3 _ _ _ _ _ _)
      | (with_reducible exact good_Count.mono _ _ _ _)
      | (with_reducible exact stepladderlaw15_awake.mono _)
      | (with_reducible exact LeO.refl _)
      | (with_reducible exact LeO.none _)
      | (with_reducible refine LeO.ite ?_ ?_)
      | (with_reducible refine LeO.bind ?_ (fun _ => ?_))
      | exact ih0 _ _ _ _ _ _
      | exact ih1 _ _ _ _ _
      | exact ih2 _ _ _ _ _
      | exact ih3 _ _ _ _ _ _
      | exact good_Count.mono _ _ _ _
      | exact stepladderlaw15_awake.mono _
      | exact LeO.none _
      | refine LeO.ite ?_ ?_
      | refine LeO.bind ?_ (fun _ => ?_)
set_option maxHeartbeats 8000000 in
set_option maxRecDepth 100000 in
theorem stepladderlaw15_GoodFair.calls (k : Nat) (A0 : Option Addr) (c0 : Nat) (l0 : List Int) (a1 : Int) (a2 : Int) (a3 : Int) (r : Bool) (w : World) (hr0 : Kd.C (Kd.int .i64) w A0 l0.length l0) (hc0 : l0.length ≤ c0) (h : stepladderlaw15_GoodFair.f k l0 a1 a2 a3 = some r) :
    Calls Try.prog 7 #[.slice A0 l0.length c0, .int .i64 a1, .int .i64 a2, .int .i64 a3] w fun e w' => e = .returned (.bool r) ∧ Below w.heap.size w w' := by
  have HR0 := Aside0.mk hr0
  have HC0 := Aside0.mk hc0
  clear hr0 hc0
  have HB := Aside0.mk (Below.refl w.heap.size w)
  have H : ((stepladderlaw15_awake.f k).bind fun t169 => (if t169 = true then (if (l0.length : Int) > 210 then (stepladderlaw15_GoodFair.j0 k l0 a1 a2 a3 t169 true) else (if a1 < 0 then (stepladderlaw15_GoodFair.j0 k l0 a1 a2 a3 t169 true) else (if a1 > 31 then (stepladderlaw15_GoodFair.j0 k l0 a1 a2 a3 t169 true) else (if a2 < 1 then (stepladderlaw15_GoodFair.j0 k l0 a1 a2 a3 t169 true) else ((super_May.f l0).bind fun t170 => (stepladderlaw15_GoodFair.j0 k l0 a1 a2 a3 t169 (!t170))))))) else (stepladderlaw15_GoodFair.j0 k l0 a1 a2 a3 t169 true))) = some r := h
  clear h
  replace H := Option.bind_eq_some_iff.mp H
  obtain ⟨t169, A50, H⟩ := H
  replace H : (if t169 = true then (if (l0.length : Int) > 210 then (stepladderlaw15_GoodFair.j0 k l0 a1 a2 a3 t169 true) else (if a1 < 0 then (stepladderlaw15_GoodFair.j0 k l0 a1 a2 a3 t169 true) else (if a1 > 31 then (stepladderlaw15_GoodFair.j0 k l0 a1 a2 a3 t169 true) else (if a2 < 1 then (stepladderlaw15_GoodFair.j0 k l0 a1 a2 a3 t169 true) else ((super_May.f l0).bind fun t170 => (stepladderlaw15_GoodFair.j0 k l0 a1 a2 a3 t169 (!t170))))))) else (stepladderlaw15_GoodFair.j0 k l0 a1 a2 a3 t169 true)) = some r := H
  have A5 := Aside0.mk A50
  clear A50
  have HC6 := Aside0.mk H
  clear H
  go_enter Try.func7, Try.ntmps7
  go_upto_region 2 with (first | ((with_reducible refine gate_callee (f := 14) rfl ?_); refine goesL_ (some 13) rfl rfl Try.func14 (by kernel_rfl) rfl #[] rfl (by (try simp only [List.map_toArray, List.map_cons, List.map_nil]); first | done | rfl | (simp only [List.length_drop, List.length_take]; rfl)) ?_; (with_reducible refine (stepladderlaw15_awake.calls k  t169 _ A5.out).mono ?_); rintro e w7 ⟨rfl, hb⟩; refine ⟨_, rfl, ?_⟩; have n0_ := Aside0.mk (below_step (by repeat (first | (with_reducible first | exact HB.out | apply below_alloc | apply pw_below_drewN | apply below_drew1) | exact HB.out)) hb); clear HB; have HB := n0_; clear n0_; (try clear hb); (try clear hb2); (try clear hk); (try clear hi)))
  (try simp only [Act.put, List.setIfInBounds_toArray, List.set_cons_zero, List.set_cons_succ])
  go_cut [37] (fun v37 wc => ∃ (kq : Nat) (x37_5 : Bool), v37 = .bool x37_5 ∧ Aside0 (stepladderlaw15_GoodFair.j0 kq l0 a1 a2 a3 t169 x37_5 = some r) ∧ Aside0 (kq ≤ k) ∧ Aside0 (Below w.heap.size w wc))
  case first =>
    have H := HC6.out
    clear HC6
    by_cases c8 : t169 = true
    · subst c8
      have H1 : (if (l0.length : Int) > 210 then (stepladderlaw15_GoodFair.j0 k l0 a1 a2 a3 true true) else (if a1 < 0 then (stepladderlaw15_GoodFair.j0 k l0 a1 a2 a3 true true) else (if a1 > 31 then (stepladderlaw15_GoodFair.j0 k l0 a1 a2 a3 true true) else (if a2 < 1 then (stepladderlaw15_GoodFair.j0 k l0 a1 a2 a3 true true) else ((super_May.f l0).bind fun t170 => (stepladderlaw15_GoodFair.j0 k l0 a1 a2 a3 true (!t170))))))) = some r := by rw [if_pos rfl] at H; exact H
      clear H
      have H := H1
      clear H1
      by_cases c9 : (l0.length : Int) > 210
      · rw [if_pos c9] at H
        have c9b0 : decide (210 < (l0.length : Int)) = true := decide_eq_true c9
        have c9b1 : decide (210 < l0.length) = true := decide_eq_true (by omega)
        clear c9
        (first | rw [c9b0] | (simp only [i64_w, i32_w]; rw [c9b0]) | skip)
        have H' := Aside0.mk H
        clear H
        go_wp2
        go_meet
        case rel => exact ⟨_, (true), (by first | rfl | (simp; done) | (simp [*]; done)), H', ⟨by first | omega | exact Nat.le_refl _⟩, ⟨by repeat (first | (with_reducible first | exact HB.out | apply below_alloc | apply pw_below_drewN | apply below_drew1) | exact HB.out)⟩⟩
      · rw [if_neg c9] at H
        have c9b0 : decide (210 < (l0.length : Int)) = false := decide_eq_false c9
        have c9b1 : decide (210 < l0.length) = false := decide_eq_false (by omega)
        clear c9
        (first | rw [c9b0] | (simp only [i64_w, i32_w]; rw [c9b0]) | skip)
        by_cases c10 : a1 < 0
        · rw [if_pos c10] at H
          have c10b0 : decide (a1 < 0) = true := decide_eq_true c10
          clear c10
          have H' := Aside0.mk H
          clear H
          go_wp2
          go_meet
          case rel => exact ⟨_, (true), (by first | rfl | (simp; done) | (simp [*]; done)), H', ⟨by first | omega | exact Nat.le_refl _⟩, ⟨by repeat (first | (with_reducible first | exact HB.out | apply below_alloc | apply pw_below_drewN | apply below_drew1) | exact HB.out)⟩⟩
        · rw [if_neg c10] at H
          have c10b0 : decide (a1 < 0) = false := decide_eq_false c10
          clear c10
          by_cases c11 : a1 > 31
          · rw [if_pos c11] at H
            have c11b0 : decide (31 < a1) = true := decide_eq_true c11
            clear c11
            have H' := Aside0.mk H
            clear H
            go_wp2
            go_meet
            case rel => exact ⟨_, (true), (by first | rfl | (simp; done) | (simp [*]; done)), H', ⟨by first | omega | exact Nat.le_refl _⟩, ⟨by repeat (first | (with_reducible first | exact HB.out | apply below_alloc | apply pw_below_drewN | apply below_drew1) | exact HB.out)⟩⟩
          · rw [if_neg c11] at H
            have c11b0 : decide (31 < a1) = false := decide_eq_false c11
            clear c11
            by_cases c12 : a2 < 1
            · rw [if_pos c12] at H
              have c12b0 : decide (a2 < 1) = true := decide_eq_true c12
              clear c12
              have H' := Aside0.mk H
              clear H
              go_wp2
              go_meet
              case rel => exact ⟨_, (true), (by first | rfl | (simp; done) | (simp [*]; done)), H', ⟨by first | omega | exact Nat.le_refl _⟩, ⟨by repeat (first | (with_reducible first | exact HB.out | apply below_alloc | apply pw_below_drewN | apply below_drew1) | exact HB.out)⟩⟩
            · rw [if_neg c12] at H
              have c12b0 : decide (a2 < 1) = false := decide_eq_false c12
              clear c12
              replace H := Option.bind_eq_some_iff.mp H
              obtain ⟨t170, A130, H⟩ := H
              replace H : (stepladderlaw15_GoodFair.j0 k l0 a1 a2 a3 true (!t170)) = some r := H
              have A13 := Aside0.mk A130
              clear A130
              have H' := Aside0.mk H
              clear H
              go_wp2_with (first | (go_at_call 21; (with_reducible refine (super_May.calls _ _ l0 t170 _ ?side1 ?side2 A13.out).mono ?_); (case side1 => repeat (first | exact (Kd.C_below HR0.out HB.out) | (with_reducible refine Kd.C_alloc ?_ _) | (with_reducible refine Kd.C_drewN ?_ _) | (with_reducible refine Kd.C_drew ?_))); (case side2 => exact HC0.out); rintro e w' ⟨rfl, ⟨nd, rfl⟩⟩))
              go_meet
              case rel => exact ⟨_, (!t170), (by first | rfl | (simp; done) | (simp [*]; done)), H', ⟨by first | omega | exact Nat.le_refl _⟩, ⟨by repeat (first | (with_reducible first | exact HB.out | apply below_alloc | apply pw_below_drewN | apply below_drew1) | exact HB.out)⟩⟩
    · replace c8 := Bool.eq_false_iff.mpr c8
      subst c8
      have H1 : (stepladderlaw15_GoodFair.j0 k l0 a1 a2 a3 false true) = some r := by rw [if_neg (show ¬ (false = true) by decide)] at H; exact H
      clear H
      have H := H1
      clear H1
      have H' := Aside0.mk H
      clear H
      go_wp2
      go_meet
      case rel => exact ⟨_, (true), (by first | rfl | (simp; done) | (simp [*]; done)), H', ⟨by first | omega | exact Nat.le_refl _⟩, ⟨by repeat (first | (with_reducible first | exact HB.out | apply below_alloc | apply pw_below_drewN | apply below_drew1) | exact HB.out)⟩⟩
  case rest =>
    clear HC6
    try clear c1
    try clear p2
    try clear c7
    try clear c8
    try clear c9
    try clear c9b0
    try clear c9b1
    try clear c10
    try clear c10b0
    try clear c11
    try clear c11b0
    try clear c12
    try clear c12b0
    obtain ⟨kq, x37_5, rfl, HA, HJ5, HB⟩ := hcut
    cases kq with
    | zero => exact absurd HA.out (by simp [stepladderlaw15_GoodFair.j0])
    | succ kj5 =>
      have H := HA.out
      clear HA
      simp only [stepladderlaw15_GoodFair.j0] at H
      by_cases c14 : x37_5 = true
      · subst c14
        have H1 : (some t169) = some r := by rw [if_pos rfl] at H; exact H
        clear H
        have H := H1
        clear H1
        obtain rfl := Option.some.inj H
        go_wp2
        go_ret
        exact ⟨by first | rfl | (simp [errW_none, errW_some] <;> rfl) | (simp [*, errW_none, errW_some] <;> rfl), by repeat (first | (with_reducible first | exact HB.out | apply below_alloc | apply pw_below_drewN | apply below_drew1) | exact HB.out)⟩
      · replace c14 := Bool.eq_false_iff.mpr c14
        subst c14
        have H1 : ((good_Count.f kj5 l0 0 a1).bind fun t171 => (if t171 < a2 then ((good_Fair.f l0 a1 a2).bind fun t172 => (stepladderlaw15_GoodFair.j1 kj5 l0 a1 a2 a3 (!t172))) else (stepladderlaw15_GoodFair.j1 kj5 l0 a1 a2 a3 false))) = some r := by rw [if_neg (show ¬ (false = true) by decide)] at H; exact H
        clear H
        have H := H1
        clear H1
        have HC15 := Aside0.mk H
        clear H
        go_upto_region 4 with (fail)
        go_cut [50] (fun v50 wc => ∃ (kq : Nat) (x50_14 : Bool), v50 = .bool x50_14 ∧ Aside0 (stepladderlaw15_GoodFair.j1 kq l0 a1 a2 a3 x50_14 = some r) ∧ Aside0 (kq ≤ kj5) ∧ Aside0 (Below w.heap.size w wc))
        case first =>
          have H := HC15.out
          clear HC15
          replace H := Option.bind_eq_some_iff.mp H
          obtain ⟨t171, A160, H⟩ := H
          replace H : (if t171 < a2 then ((good_Fair.f l0 a1 a2).bind fun t172 => (stepladderlaw15_GoodFair.j1 kj5 l0 a1 a2 a3 (!t172))) else (stepladderlaw15_GoodFair.j1 kj5 l0 a1 a2 a3 false)) = some r := H
          have A16 := Aside0.mk A160
          clear A160
          by_cases c17 : t171 < a2
          · rw [if_pos c17] at H
            have c17b0 : decide (t171 < a2) = true := decide_eq_true c17
            clear c17
            (first | rw [c17b0] | (simp only [i64_w, i32_w]; rw [c17b0]) | skip)
            replace H := Option.bind_eq_some_iff.mp H
            obtain ⟨t172, A180, H⟩ := H
            replace H : (stepladderlaw15_GoodFair.j1 kj5 l0 a1 a2 a3 (!t172)) = some r := H
            have A18 := Aside0.mk A180
            clear A180
            have H' := Aside0.mk H
            clear H
            go_wp2_with (first | ((with_reducible refine gate_callee (f := 19) rfl ?_); refine goesL_ (some 41) rfl rfl Try.func19 (by kernel_rfl) rfl #[.slice A0 l0.length c0, .int .i64 0, .int .i64 a1] rfl (by (try simp only [List.map_toArray, List.map_cons, List.map_nil]); first | done | rfl | (simp only [List.length_drop, List.length_take]; rfl)) ?_; (with_reducible refine (good_Count.calls kj5 _ _ l0 0 a1 t171 _ ?side1 ?side2 A16.out).mono ?_); (case side1 => repeat (first | exact (Kd.C_below HR0.out HB.out) | (with_reducible refine Kd.C_alloc ?_ _) | (with_reducible refine Kd.C_drewN ?_ _) | (with_reducible refine Kd.C_drew ?_))); (case side2 => exact HC0.out); rintro e w19 ⟨rfl, hb⟩; refine ⟨_, rfl, ?_⟩; have n0_ := Aside0.mk (below_step (by repeat (first | (with_reducible first | exact HB.out | apply below_alloc | apply pw_below_drewN | apply below_drew1) | exact HB.out)) hb); clear HB; have HB := n0_; clear n0_; (try clear hb); (try clear hb2); (try clear hk); (try clear hi)) | (go_at_call 17; (with_reducible refine (good_Fair.calls _ _ l0 a1 a2 t172 _ ?side1 ?side2 A18.out).mono ?_); (case side1 => repeat (first | exact (Kd.C_below HR0.out HB.out) | (with_reducible refine Kd.C_alloc ?_ _) | (with_reducible refine Kd.C_drewN ?_ _) | (with_reducible refine Kd.C_drew ?_))); (case side2 => exact HC0.out); rintro e w20 ⟨rfl, hb⟩; have n0_ := Aside0.mk (below_step (by repeat (first | (with_reducible first | exact HB.out | apply below_alloc | apply pw_below_drewN | apply below_drew1) | exact HB.out)) hb); clear HB; have HB := n0_; clear n0_; (try clear hb); (try clear hb2); (try clear hk); (try clear hi)))
            go_meet
            case rel => exact ⟨_, (!t172), (by first | rfl | (simp; done) | (simp [*]; done)), H', ⟨by have := HJ5.out; first | omega | exact Nat.le_refl _⟩, ⟨by repeat (first | (with_reducible first | exact HB.out | apply below_alloc | apply pw_below_drewN | apply below_drew1) | exact HB.out)⟩⟩
          · rw [if_neg c17] at H
            have c17b0 : decide (t171 < a2) = false := decide_eq_false c17
            clear c17
            (first | rw [c17b0] | (simp only [i64_w, i32_w]; rw [c17b0]) | skip)
            have H' := Aside0.mk H
            clear H
            go_wp2_with (first | ((with_reducible refine gate_callee (f := 19) rfl ?_); refine goesL_ (some 41) rfl rfl Try.func19 (by kernel_rfl) rfl #[.slice A0 l0.length c0, .int .i64 0, .int .i64 a1] rfl (by (try simp only [List.map_toArray, List.map_cons, List.map_nil]); first | done | rfl | (simp only [List.length_drop, List.length_take]; rfl)) ?_; (with_reducible refine (good_Count.calls kj5 _ _ l0 0 a1 t171 _ ?side1 ?side2 A16.out).mono ?_); (case side1 => repeat (first | exact (Kd.C_below HR0.out HB.out) | (with_reducible refine Kd.C_alloc ?_ _) | (with_reducible refine Kd.C_drewN ?_ _) | (with_reducible refine Kd.C_drew ?_))); (case side2 => exact HC0.out); rintro e w21 ⟨rfl, hb⟩; refine ⟨_, rfl, ?_⟩; have n0_ := Aside0.mk (below_step (by repeat (first | (with_reducible first | exact HB.out | apply below_alloc | apply pw_below_drewN | apply below_drew1) | exact HB.out)) hb); clear HB; have HB := n0_; clear n0_; (try clear hb); (try clear hb2); (try clear hk); (try clear hi)))
            go_meet
            case rel => exact ⟨_, (false), (by first | rfl | (simp; done) | (simp [*]; done)), H', ⟨by have := HJ5.out; first | omega | exact Nat.le_refl _⟩, ⟨by repeat (first | (with_reducible first | exact HB.out | apply below_alloc | apply pw_below_drewN | apply below_drew1) | exact HB.out)⟩⟩
        case rest =>
          clear HC15
          try clear c1
          try clear p2
          try clear c7
          try clear c8
          try clear c9
          try clear c9b0
          try clear c9b1
          try clear c10
          try clear c10b0
          try clear c11
          try clear c11b0
          try clear c12
          try clear c12b0
          try clear c14
          try clear c17
          try clear c17b0
          try clear c19
          try clear p2
          obtain ⟨kq, x50_14, rfl, HA, HJ14, HB⟩ := hcut
          cases kq with
          | zero => exact absurd HA.out (by simp [stepladderlaw15_GoodFair.j1])
          | succ kj14 =>
            have H := HA.out
            clear HA
            simp only [stepladderlaw15_GoodFair.j1] at H
            by_cases c22 : x50_14 = true
            · subst c22
              have H1 : (some false) = some r := by rw [if_pos rfl] at H; exact H
              clear H
              have H := H1
              clear H1
              obtain rfl := Option.some.inj H
              go_wp2
              go_ret
              exact ⟨by first | rfl | (simp [errW_none, errW_some] <;> rfl) | (simp [*, errW_none, errW_some] <;> rfl), by repeat (first | (with_reducible first | exact HB.out | apply below_alloc | apply pw_below_drewN | apply below_drew1) | exact HB.out)⟩
            · replace c22 := Bool.eq_false_iff.mpr c22
              subst c22
              have H1 : ((good_Count.f kj14 l0 a3 a1).bind fun t173 => ((good_Fair.f l0 a1 a2).bind fun t174 => (if t174 = true then (if a3 < 0 then (stepladderlaw15_GoodFair.j2 kj14 l0 a1 a3 t173 true) else (if a3 ≥ (l0.length : Int) then (stepladderlaw15_GoodFair.j2 kj14 l0 a1 a3 t173 true) else (if 0 ≤ a3 then (if a3 < (l0.length : Int) then (if (rd l0 a3) < a1 then (stepladderlaw15_GoodFair.j2 kj14 l0 a1 a3 t173 true) else (stepladderlaw15_GoodFair.j2 kj14 l0 a1 a3 t173 (decide (t173 < a2)))) else (none)) else (none)))) else (stepladderlaw15_GoodFair.j2 kj14 l0 a1 a3 t173 true)))) = some r := by rw [if_neg (show ¬ (false = true) by decide)] at H; exact H
              clear H
              have H := H1
              clear H1
              replace H := Option.bind_eq_some_iff.mp H
              obtain ⟨t173, A230, H⟩ := H
              replace H : ((good_Fair.f l0 a1 a2).bind fun t174 => (if t174 = true then (if a3 < 0 then (stepladderlaw15_GoodFair.j2 kj14 l0 a1 a3 t173 true) else (if a3 ≥ (l0.length : Int) then (stepladderlaw15_GoodFair.j2 kj14 l0 a1 a3 t173 true) else (if 0 ≤ a3 then (if a3 < (l0.length : Int) then (if (rd l0 a3) < a1 then (stepladderlaw15_GoodFair.j2 kj14 l0 a1 a3 t173 true) else (stepladderlaw15_GoodFair.j2 kj14 l0 a1 a3 t173 (decide (t173 < a2)))) else (none)) else (none)))) else (stepladderlaw15_GoodFair.j2 kj14 l0 a1 a3 t173 true))) = some r := H
              have A23 := Aside0.mk A230
              clear A230
              have HC24 := Aside0.mk H
              clear H
              go_upto_region 7 with (first | ((with_reducible refine gate_callee (f := 19) rfl ?_); refine goesL_ (some 54) rfl rfl Try.func19 (by kernel_rfl) rfl #[.slice A0 l0.length c0, .int .i64 a3, .int .i64 a1] rfl (by (try simp only [List.map_toArray, List.map_cons, List.map_nil]); first | done | rfl | (simp only [List.length_drop, List.length_take]; rfl)) ?_; (with_reducible refine (good_Count.calls kj14 _ _ l0 a3 a1 t173 _ ?side1 ?side2 A23.out).mono ?_); (case side1 => repeat (first | exact (Kd.C_below HR0.out HB.out) | (with_reducible refine Kd.C_alloc ?_ _) | (with_reducible refine Kd.C_drewN ?_ _) | (with_reducible refine Kd.C_drew ?_))); (case side2 => exact HC0.out); rintro e w25 ⟨rfl, hb⟩; refine ⟨_, rfl, ?_⟩; have n0_ := Aside0.mk (below_step (by repeat (first | (with_reducible first | exact HB.out | apply below_alloc | apply pw_below_drewN | apply below_drew1) | exact HB.out)) hb); clear HB; have HB := n0_; clear n0_; (try clear hb); (try clear hb2); (try clear hk); (try clear hi)))
              (try simp only [Act.put, List.setIfInBounds_toArray, List.set_cons_zero, List.set_cons_succ])
              go_cut [82] (fun v82 wc => ∃ (kq : Nat) (x82_23 : Bool), v82 = .bool x82_23 ∧ Aside0 (stepladderlaw15_GoodFair.j2 kq l0 a1 a3 t173 x82_23 = some r) ∧ Aside0 (kq ≤ kj14) ∧ Aside0 (Below w.heap.size w wc))
              case first =>
                have H := HC24.out
                clear HC24
                replace H := Option.bind_eq_some_iff.mp H
                obtain ⟨t174, A260, H⟩ := H
                replace H : (if t174 = true then (if a3 < 0 then (stepladderlaw15_GoodFair.j2 kj14 l0 a1 a3 t173 true) else (if a3 ≥ (l0.length : Int) then (stepladderlaw15_GoodFair.j2 kj14 l0 a1 a3 t173 true) else (if 0 ≤ a3 then (if a3 < (l0.length : Int) then (if (rd l0 a3) < a1 then (stepladderlaw15_GoodFair.j2 kj14 l0 a1 a3 t173 true) else (stepladderlaw15_GoodFair.j2 kj14 l0 a1 a3 t173 (decide (t173 < a2)))) else (none)) else (none)))) else (stepladderlaw15_GoodFair.j2 kj14 l0 a1 a3 t173 true)) = some r := H
                have A26 := Aside0.mk A260
                clear A260
                by_cases c27 : t174 = true
                · subst c27
                  have H1 : (if a3 < 0 then (stepladderlaw15_GoodFair.j2 kj14 l0 a1 a3 t173 true) else (if a3 ≥ (l0.length : Int) then (stepladderlaw15_GoodFair.j2 kj14 l0 a1 a3 t173 true) else (if 0 ≤ a3 then (if a3 < (l0.length : Int) then (if (rd l0 a3) < a1 then (stepladderlaw15_GoodFair.j2 kj14 l0 a1 a3 t173 true) else (stepladderlaw15_GoodFair.j2 kj14 l0 a1 a3 t173 (decide (t173 < a2)))) else (none)) else (none)))) = some r := by rw [if_pos rfl] at H; exact H
                  clear H
                  have H := H1
                  clear H1
                  by_cases c28 : a3 < 0
                  · rw [if_pos c28] at H
                    have c28b0 : decide (a3 < 0) = true := decide_eq_true c28
                    clear c28
                    (first | rw [c28b0] | (simp only [i64_w, i32_w]; rw [c28b0]) | skip)
                    have H' := Aside0.mk H
                    clear H
                    go_wp2_with (first | ((with_reducible refine gate_callee (f := 17) rfl ?_); refine goesL_ (some 58) rfl rfl Try.func17 (by kernel_rfl) rfl #[.slice A0 l0.length c0, .int .i64 a1, .int .i64 a2] rfl (by (try simp only [List.map_toArray, List.map_cons, List.map_nil]); first | done | rfl | (simp only [List.length_drop, List.length_take]; rfl)) ?_; (with_reducible refine (good_Fair.calls _ _ l0 a1 a2 true _ ?side1 ?side2 A26.out).mono ?_); (case side1 => repeat (first | exact (Kd.C_below HR0.out HB.out) | (with_reducible refine Kd.C_alloc ?_ _) | (with_reducible refine Kd.C_drewN ?_ _) | (with_reducible refine Kd.C_drew ?_))); (case side2 => exact HC0.out); rintro e w29 ⟨rfl, hb⟩; refine ⟨_, rfl, ?_⟩; have n0_ := Aside0.mk (below_step (by repeat (first | (with_reducible first | exact HB.out | apply below_alloc | apply pw_below_drewN | apply below_drew1) | exact HB.out)) hb); clear HB; have HB := n0_; clear n0_; (try clear hb); (try clear hb2); (try clear hk); (try clear hi)))
                    go_meet
                    case rel => exact ⟨_, (true), (by first | rfl | (simp; done) | (simp [*]; done)), H', ⟨by have := HJ5.out; have := HJ14.out; first | omega | exact Nat.le_refl _⟩, ⟨by repeat (first | (with_reducible first | exact HB.out | apply below_alloc | apply pw_below_drewN | apply below_drew1) | exact HB.out)⟩⟩
                  · rw [if_neg c28] at H
                    have c28b0 : decide (a3 < 0) = false := decide_eq_false c28
                    clear c28
                    (first | rw [c28b0] | (simp only [i64_w, i32_w]; rw [c28b0]) | skip)
                    by_cases c30 : a3 ≥ (l0.length : Int)
                    · rw [if_pos c30] at H
                      have c30b0 : decide ((l0.length : Int) ≤ a3) = true := decide_eq_true c30
                      clear c30
                      have H' := Aside0.mk H
                      clear H
                      go_wp2_with (first | ((with_reducible refine gate_callee (f := 17) rfl ?_); refine goesL_ (some 58) rfl rfl Try.func17 (by kernel_rfl) rfl #[.slice A0 l0.length c0, .int .i64 a1, .int .i64 a2] rfl (by (try simp only [List.map_toArray, List.map_cons, List.map_nil]); first | done | rfl | (simp only [List.length_drop, List.length_take]; rfl)) ?_; (with_reducible refine (good_Fair.calls _ _ l0 a1 a2 true _ ?side1 ?side2 A26.out).mono ?_); (case side1 => repeat (first | exact (Kd.C_below HR0.out HB.out) | (with_reducible refine Kd.C_alloc ?_ _) | (with_reducible refine Kd.C_drewN ?_ _) | (with_reducible refine Kd.C_drew ?_))); (case side2 => exact HC0.out); rintro e w31 ⟨rfl, hb⟩; refine ⟨_, rfl, ?_⟩; have n0_ := Aside0.mk (below_step (by repeat (first | (with_reducible first | exact HB.out | apply below_alloc | apply pw_below_drewN | apply below_drew1) | exact HB.out)) hb); clear HB; have HB := n0_; clear n0_; (try clear hb); (try clear hb2); (try clear hk); (try clear hi)))
                      go_meet
                      case rel => exact ⟨_, (true), (by first | rfl | (simp; done) | (simp [*]; done)), H', ⟨by have := HJ5.out; have := HJ14.out; first | omega | exact Nat.le_refl _⟩, ⟨by repeat (first | (with_reducible first | exact HB.out | apply below_alloc | apply pw_below_drewN | apply below_drew1) | exact HB.out)⟩⟩
                    · rw [if_neg c30] at H
                      have c30b0 : decide ((l0.length : Int) ≤ a3) = false := decide_eq_false c30
                      clear c30
                      by_cases c32 : 0 ≤ a3
                      · rw [if_pos c32] at H
                        have c32b0 : decide (0 ≤ a3) = true := decide_eq_true c32
                        clear c32
                        by_cases c33 : a3 < (l0.length : Int)
                        · rw [if_pos c33] at H
                          have c33b0 : decide (a3 < (l0.length : Int)) = true := decide_eq_true c33
                          clear c33
                          by_cases c34 : (rd l0 a3) < a1
                          · rw [if_pos c34] at H
                            have c34b0 : decide ((rd l0 a3) < a1) = true := decide_eq_true c34
                            clear c34
                            have H' := Aside0.mk H
                            clear H
                            go_wp2_with (first | ((with_reducible refine gate_callee (f := 17) rfl ?_); refine goesL_ (some 58) rfl rfl Try.func17 (by kernel_rfl) rfl #[.slice A0 l0.length c0, .int .i64 a1, .int .i64 a2] rfl (by (try simp only [List.map_toArray, List.map_cons, List.map_nil]); first | done | rfl | (simp only [List.length_drop, List.length_take]; rfl)) ?_; (with_reducible refine (good_Fair.calls _ _ l0 a1 a2 true _ ?side1 ?side2 A26.out).mono ?_); (case side1 => repeat (first | exact (Kd.C_below HR0.out HB.out) | (with_reducible refine Kd.C_alloc ?_ _) | (with_reducible refine Kd.C_drewN ?_ _) | (with_reducible refine Kd.C_drew ?_))); (case side2 => exact HC0.out); rintro e w35 ⟨rfl, hb⟩; refine ⟨_, rfl, ?_⟩; have n0_ := Aside0.mk (below_step (by repeat (first | (with_reducible first | exact HB.out | apply below_alloc | apply pw_below_drewN | apply below_drew1) | exact HB.out)) hb); clear HB; have HB := n0_; clear n0_; (try clear hb); (try clear hb2); (try clear hk); (try clear hi); have p175 : 0 ≤ (a3 : Int) := of_decide_eq_true (by first | (with_reducible assumption) | assumption); have q175 : a3 < (l0.length : Int) := of_decide_eq_true (by first | (with_reducible assumption) | assumption); obtain ⟨ad175, e175, hx175_0⟩ := Kd.at_int HR0.out a3 p175 q175; cases e175; replace hx175_0 := (HB.out.cell (World.block_lt_of_cell? w _ hx175_0)).trans hx175_0; replace p175 := eq_true p175; replace q175 := eq_true q175))
                            go_meet
                            case rel => exact ⟨_, (true), (by first | rfl | (simp; done) | (simp [*]; done)), H', ⟨by have := HJ5.out; have := HJ14.out; first | omega | exact Nat.le_refl _⟩, ⟨by repeat (first | (with_reducible first | exact HB.out | apply below_alloc | apply pw_below_drewN | apply below_drew1) | exact HB.out)⟩⟩
                          · rw [if_neg c34] at H
                            have c34b0 : decide ((rd l0 a3) < a1) = false := decide_eq_false c34
                            clear c34
                            have H' := Aside0.mk H
                            clear H
                            go_wp2_with (first | ((with_reducible refine gate_callee (f := 17) rfl ?_); refine goesL_ (some 58) rfl rfl Try.func17 (by kernel_rfl) rfl #[.slice A0 l0.length c0, .int .i64 a1, .int .i64 a2] rfl (by (try simp only [List.map_toArray, List.map_cons, List.map_nil]); first | done | rfl | (simp only [List.length_drop, List.length_take]; rfl)) ?_; (with_reducible refine (good_Fair.calls _ _ l0 a1 a2 true _ ?side1 ?side2 A26.out).mono ?_); (case side1 => repeat (first | exact (Kd.C_below HR0.out HB.out) | (with_reducible refine Kd.C_alloc ?_ _) | (with_reducible refine Kd.C_drewN ?_ _) | (with_reducible refine Kd.C_drew ?_))); (case side2 => exact HC0.out); rintro e w36 ⟨rfl, hb⟩; refine ⟨_, rfl, ?_⟩; have n0_ := Aside0.mk (below_step (by repeat (first | (with_reducible first | exact HB.out | apply below_alloc | apply pw_below_drewN | apply below_drew1) | exact HB.out)) hb); clear HB; have HB := n0_; clear n0_; (try clear hb); (try clear hb2); (try clear hk); (try clear hi); have p175 : 0 ≤ (a3 : Int) := of_decide_eq_true (by first | (with_reducible assumption) | assumption); have q175 : a3 < (l0.length : Int) := of_decide_eq_true (by first | (with_reducible assumption) | assumption); obtain ⟨ad175, e175, hx175_0⟩ := Kd.at_int HR0.out a3 p175 q175; cases e175; replace hx175_0 := (HB.out.cell (World.block_lt_of_cell? w _ hx175_0)).trans hx175_0; replace p175 := eq_true p175; replace q175 := eq_true q175))
                            go_meet
                            case rel => exact ⟨_, (decide (t173 < a2)), (by first | rfl | (simp; done) | (simp [*]; done)), H', ⟨by have := HJ5.out; have := HJ14.out; first | omega | exact Nat.le_refl _⟩, ⟨by repeat (first | (with_reducible first | exact HB.out | apply below_alloc | apply pw_below_drewN | apply below_drew1) | exact HB.out)⟩⟩
                        · rw [if_neg c33] at H
                          exact absurd H (by simp)
                      · rw [if_neg c32] at H
                        exact absurd H (by simp)
                · replace c27 := Bool.eq_false_iff.mpr c27
                  subst c27
                  have H1 : (stepladderlaw15_GoodFair.j2 kj14 l0 a1 a3 t173 true) = some r := by rw [if_neg (show ¬ (false = true) by decide)] at H; exact H
                  clear H
                  have H := H1
                  clear H1
                  have H' := Aside0.mk H
                  clear H
                  go_wp2_with (first | ((with_reducible refine gate_callee (f := 17) rfl ?_); refine goesL_ (some 58) rfl rfl Try.func17 (by kernel_rfl) rfl #[.slice A0 l0.length c0, .int .i64 a1, .int .i64 a2] rfl (by (try simp only [List.map_toArray, List.map_cons, List.map_nil]); first | done | rfl | (simp only [List.length_drop, List.length_take]; rfl)) ?_; (with_reducible refine (good_Fair.calls _ _ l0 a1 a2 false _ ?side1 ?side2 A26.out).mono ?_); (case side1 => repeat (first | exact (Kd.C_below HR0.out HB.out) | (with_reducible refine Kd.C_alloc ?_ _) | (with_reducible refine Kd.C_drewN ?_ _) | (with_reducible refine Kd.C_drew ?_))); (case side2 => exact HC0.out); rintro e w37 ⟨rfl, hb⟩; refine ⟨_, rfl, ?_⟩; have n0_ := Aside0.mk (below_step (by repeat (first | (with_reducible first | exact HB.out | apply below_alloc | apply pw_below_drewN | apply below_drew1) | exact HB.out)) hb); clear HB; have HB := n0_; clear n0_; (try clear hb); (try clear hb2); (try clear hk); (try clear hi)))
                  go_meet
                  case rel => exact ⟨_, (true), (by first | rfl | (simp; done) | (simp [*]; done)), H', ⟨by have := HJ5.out; have := HJ14.out; first | omega | exact Nat.le_refl _⟩, ⟨by repeat (first | (with_reducible first | exact HB.out | apply below_alloc | apply pw_below_drewN | apply below_drew1) | exact HB.out)⟩⟩
              case rest =>
                clear HC24
                try clear c1
                try clear p1
                try clear q1
                try clear hx1
                try clear c2
                try clear p2
                try clear c3
                try clear c7
                try clear c8
                try clear c9
                try clear c9b0
                try clear c9b1
                try clear c10
                try clear c10b0
                try clear c11
                try clear c11b0
                try clear c12
                try clear c12b0
                try clear c14
                try clear c17
                try clear c17b0
                try clear p17
                try clear q17
                try clear hx17
                try clear c19
                try clear c22
                try clear c27
                try clear c28
                try clear c28b0
                try clear c30
                try clear c30b0
                try clear c32
                try clear c32b0
                try clear c33
                try clear c33b0
                try clear c34
                try clear c34b0
                try clear hx175_0
                try clear p175
                try clear p2
                try clear q175
                obtain ⟨kq, x82_23, rfl, HA, HJ23, HB⟩ := hcut
                cases kq with
                | zero => exact absurd HA.out (by simp [stepladderlaw15_GoodFair.j2])
                | succ kj23 =>
                  have H := HA.out
                  clear HA
                  simp only [stepladderlaw15_GoodFair.j2] at H
                  by_cases c38 : x82_23 = true
                  · subst c38
                    have H1 : (some true) = some r := by rw [if_pos rfl] at H; exact H
                    clear H
                    have H := H1
                    clear H1
                    obtain rfl := Option.some.inj H
                    go_wp2
                    go_ret
                    exact ⟨by first | rfl | (simp [errW_none, errW_some] <;> rfl) | (simp [*, errW_none, errW_some] <;> rfl), by repeat (first | (with_reducible first | exact HB.out | apply below_alloc | apply pw_below_drewN | apply below_drew1) | exact HB.out)⟩
                  · replace c38 := Bool.eq_false_iff.mpr c38
                    subst c38
                    have H1 : (stepladderlaw15_GoodFair.l0 kj23 l0 a1 a3 t173 2 0) = some r := by rw [if_neg (show ¬ (false = true) by decide)] at H; exact H
                    clear H
                    have H := H1
                    clear H1
                    have H' := Aside0.mk H
                    clear H
                    go_wp2
                    go_loopg [11, 12] kj23 (fun kq v11 v12 w' => ∃ (x11_4 : Int) (x12_4 : Int), v11 = .int .i64 x11_4 ∧ v12 = .int .i64 x12_4 ∧ Aside0 (stepladderlaw15_GoodFair.l0 kq l0 a1 a3 t173 x11_4 x12_4 = some r) ∧ Aside0 (kq ≤ kj23) ∧ Aside0 (Below w.heap.size w w'))
                    case atStart => exact ⟨(2), (0), (by first | rfl | (simp; done) | (simp [*]; done)), (by first | rfl | (simp; done) | (simp [*]; done)), H', ⟨Nat.le_refl _⟩, ⟨by repeat (first | (with_reducible first | exact HB.out | apply below_alloc | apply pw_below_drewN | apply below_drew1) | exact HB.out)⟩⟩
                    case round =>
                      clear H'
                      try clear c1
                      try clear p1
                      try clear q1
                      try clear hx1
                      try clear c2
                      try clear p2
                      try clear c3
                      try clear c7
                      try clear c8
                      try clear c9
                      try clear c9b0
                      try clear c9b1
                      try clear c10
                      try clear c10b0
                      try clear c11
                      try clear c11b0
                      try clear c12
                      try clear c12b0
                      try clear c14
                      try clear c17
                      try clear c17b0
                      try clear p17
                      try clear q17
                      try clear hx17
                      try clear c19
                      try clear c22
                      try clear c27
                      try clear c28
                      try clear c28b0
                      try clear c30
                      try clear c30b0
                      try clear c32
                      try clear c32b0
                      try clear c33
                      try clear c33b0
                      try clear c34
                      try clear c34b0
                      try clear c38
                      try clear hx175_0
                      try clear p1
                      try clear p17
                      try clear p175
                      try clear p2
                      try clear q1
                      try clear q17
                      try clear q175
                      obtain ⟨x11_4, x12_4, rfl, rfl, HA, HK4, HB⟩ := hrel
                      cases gk with
                      | zero => exact absurd HA.out (by simp [stepladderlaw15_GoodFair.l0])
                      | succ k4 =>
                        have H := HA.out
                        clear HA
                        simp only [stepladderlaw15_GoodFair.l0] at H
                        by_cases c39 : x12_4 < a1
                        · rw [if_pos c39] at H
                          have c39b0 : decide (x12_4 < a1) = true := decide_eq_true c39
                          clear c39
                          have H' := Aside0.mk H
                          clear H
                          go_wp2
                          go_roundg k4
                          case measure => have := HJ5.out; have := HJ14.out; have := HJ23.out; have := HK4.out; omega
                          case rel => exact ⟨(wrap64 (2 * x11_4)), (wrap64 (x12_4 + 1)), (by first | rfl | (simp; done) | (simp [*]; done)), (by first | rfl | (simp; done) | (simp [*]; done)), H', ⟨by have := HJ5.out; have := HJ14.out; have := HJ23.out; have := HK4.out; omega⟩, ⟨by repeat (first | (with_reducible first | exact HB.out | apply below_alloc | apply pw_below_drewN | apply below_drew1) | exact HB.out)⟩⟩
                        · rw [if_neg c39] at H
                          have c39b0 : decide (x12_4 < a1) = false := decide_eq_false c39
                          clear c39
                          obtain rfl := Option.some.inj H
                          go_wp2
                          go_ret
                          exact ⟨by first | rfl | (simp [errW_none, errW_some] <;> rfl) | (simp [*, errW_none, errW_some] <;> rfl), by repeat (first | (with_reducible first | exact HB.out | apply below_alloc | apply pw_below_drewN | apply below_drew1) | exact HB.out)⟩

/-- THE ONE PURE STATEMENT of stepladderlaw15_GoodFair: yours. -/
def stepladderlaw15_GoodFair.Pure : Prop := ∀ (l0 : List Int) (a1 : Int) (a2 : Int) (a3 : Int), l0.length ≤ maxLen → l0.length * 8 ≤ 140737488351232 → (∀ x ∈ l0, (Lit.int .i64 x).wf = true) → (Lit.int .i64 a1).wf = true → (Lit.int .i64 a2).wf = true → (Lit.int .i64 a3).wf = true → ∃ k, stepladderlaw15_GoodFair.f k l0 a1 a2 a3 = some true
theorem stepladderlaw15_GoodFair.walk (P : stepladderlaw15_GoodFair.Pure) (a0 : Option Addr) (len0 cap0 : Nat) (z0 : List Int) (a1 : Int) (a2 : Int) (a3 : Int) (w : World) (w0 : (a0 = none ∧ len0 = 0 ∧ cap0 = 0 ∧ z0 = []) ∨ ∃ x, a0 = some x ∧ len0 ≤ cap0 ∧ cap0 ≤ maxLen ∧ z0.length = cap0 ∧ (∀ i, i < z0.length → w.cell? (x.add i) = some (.int .i64 (z0.getD i 0))) ∧ ∀ n ∈ z0, (Lit.int .i64 n).wf = true) (y0 : len0 * 8 ≤ 140737488351232) (w1 : (Lit.int .i64 a1).wf = true) (w2 : (Lit.int .i64 a2).wf = true) (w3 : (Lit.int .i64 a3).wf = true) :
    Calls Try.prog 7 #[.slice a0 len0 cap0, .int .i64 a1, .int .i64 a2, .int .i64 a3] w fun e w' => e = .returned (.bool true) ∧ Below w.heap.size w w' := by
  obtain ⟨l0, rfl, hr0, hm0, hw0, hc0⟩ := ReadsInt.ofRowC w0
  obtain ⟨k, h⟩ := P l0 a1 a2 a3 hm0 y0 hw0 w1 w2 w3
  refine (stepladderlaw15_GoodFair.calls k _ _ l0 a1 a2 a3 true w (Kd.C_of_reads (d := (0 : Int)) (h1 := fun _ => rfl) hr0) hc0 h).mono ?_
  rintro e w' ⟨rfl, hd⟩
  exact ⟨rfl, hd⟩

end Go.Proofs.Ytfbhgbnpppbiiaa.X
