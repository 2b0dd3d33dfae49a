-- By this session's own program (wip/tools/xprint.py), over the kit's print. Not trusted: Lean checks it.
import Derived.Test.YtfbhgbnpppbiiaaX0
import Derived.Test.YtfbhgbnpppbiiaaXsuperUp
import Derived.Test.YtfbhgbnpppbiiaaXsuperPrefix
import Derived.Test.YtfbhgbnpppbiiaaXstepladderlaw14awake
import Derived.Test.YtfbhgbnpppbiiaaXstepladderlaw14has
namespace Go.Proofs.Ytfbhgbnpppbiiaa.X
open Go.RowKit Go.Proofs.YtfbhgbnpppbiiaaW.PrintWords Go.Proofs.YtfbhgbnpppbiiaaW.PrintLast Go.Proofs.YtfbhgbnpppbiiaaW.PrintMore
attribute [local go_sem] max2_int min2_int max_two min_two max_three min_three max_four min_four   -- for this text's walks alone
set_option linter.unusedVariables false
set_option linter.unusedSimpArgs false

/-! ### stepladderlaw14_SuperAll: function 11 -/
mutual
def stepladderlaw14_SuperAll.j0 : Nat → List Int → Int → Int → Int → Int → Int → Bool → Bool → Option (Bool)
  | 0, _, _, _, _, _, _, _, _ => none
  | k + 1, x0, x1, x2, x3, x4, x5, x13, x32 => if x32 = true then (some x13) else ((super_Prefix.f x0 (wrap64 ((x0.length : Int) + 1)) x1).bind fun bt237 => (if bt237.2 = true then (stepladderlaw14_SuperAll.j1 k x0 x2 x3 x4 x5 ((bt237.1.length : Int) != (wrap64 ((x0.length : Int) - x1)))) else (stepladderlaw14_SuperAll.j1 k x0 x2 x3 x4 x5 false)))
def stepladderlaw14_SuperAll.j1 : Nat → List Int → Int → Int → Int → Int → Bool → Option (Bool)
  | 0, _, _, _, _, _, _ => none
  | k + 1, x0, x2, x3, x4, x5, x52 => if x52 = true then (some false) else ((super_Up.f k x0 x4 x5 x2).bind fun t241 => ((super_Up.f k x0 x4 x5 x3).bind fun t244 => (stepladderlaw14_SuperAll.l0 k x0 x4 x5 t241 t244 0)))
def stepladderlaw14_SuperAll.l0 : Nat → List Int → Int → Int → List Int → List Int → Int → Option (Bool)
  | 0, _, _, _, _, _, _ => none
  | k + 1, x0, x4, x5, x16, x17, x18 => if x18 < (x16.length : Int) then (if 0 ≤ x18 then ((stepladderlaw14_has.f k x17 (rd x16 x18)).bind fun t248 => (if t248 = true then (if (rd x16 x18) < x4 then (some false) else (if (rd x16 x18) ≥ x5 then (some false) else (if (rd x16 x18) < 0 then (some false) else (if (rd x16 x18) ≥ (x0.length : Int) then (some false) else (stepladderlaw14_SuperAll.l0 k x0 x4 x5 x16 x17 (wrap64 (x18 + 1))))))) else (some false))) else (none)) else (some (decide ((x16.length : Int) ≤ (x17.length : Int))))
end
def stepladderlaw14_SuperAll.f (k : Nat) (l0 : List Int) (a1 : Int) (a2 : Int) (a3 : Int) (a4 : Int) (a5 : Int) : Option (Bool) := (stepladderlaw14_awake.f k).bind fun t236 => (if t236 = true then (if (l0.length : Int) > 210 then (stepladderlaw14_SuperAll.j0 k l0 a1 a2 a3 a4 a5 t236 true) else (stepladderlaw14_SuperAll.j0 k l0 a1 a2 a3 a4 a5 t236 (decide (a3 > a2)))) else (stepladderlaw14_SuperAll.j0 k l0 a1 a2 a3 a4 a5 t236 true))
theorem stepladderlaw14_SuperAll.mono_l : ∀ k, (∀ y0 y1 y2 y3 y4 y5 y6 y7, LeO (stepladderlaw14_SuperAll.j0 k y0 y1 y2 y3 y4 y5 y6 y7) (stepladderlaw14_SuperAll.j0 (k + 1) y0 y1 y2 y3 y4 y5 y6 y7)) ∧ (∀ y0 y1 y2 y3 y4 y5, LeO (stepladderlaw14_SuperAll.j1 k y0 y1 y2 y3 y4 y5) (stepladderlaw14_SuperAll.j1 (k + 1) y0 y1 y2 y3 y4 y5)) ∧ (∀ y0 y1 y2 y3 y4 y5, LeO (stepladderlaw14_SuperAll.l0 k y0 y1 y2 y3 y4 y5) (stepladderlaw14_SuperAll.l0 (k + 1) y0 y1 y2 y3 y4 y5))
  | 0 => ⟨fun _ _ _ _ _ _ _ _ r h => by simp [stepladderlaw14_SuperAll.j0] at h, fun _ _ _ _ _ _ r h => by simp [stepladderlaw14_SuperAll.j1] at h, fun _ _ _ _ _ _ r h => by simp [stepladderlaw14_SuperAll.l0] at h⟩
  | k + 1 => by
    obtain ⟨ih0, ih1, ih2⟩ := stepladderlaw14_SuperAll.mono_l k
    refine ⟨?_, ?_, ?_⟩
    · intro y0 y1 y2 y3 y4 y5 y6 y7
      unfold stepladderlaw14_SuperAll.j0
      repeat' first
      | (with_reducible exact ih0 _ _ _ _ _ _ _ _)
      | (with_reducible exact ih1 _ _ _ _ _ _)
      | (with_reducible exact ih2 _ _ _ _ _ _)
      | (with_reducible exact stepladderlaw14_awake.mono _)
      | (with_reducible exact stepladderlaw14_has.mono _ _ _)
      | (with_reducible exact super_Up.mono _ _ _ _ _)
      | (with_reducible exact LeO.refl _)
      | (with_reducible exact LeO.none _)
      | (with_reducible refine LeO.ite ?_ ?_)
      | (with_reducible refine LeO.bind ?_ (fun _ => ?_))
      | exact ih0 _ _ _ _ _ _ _ _
      | exact ih1 _ _ _ _ _ _
      | exact ih2 _ _ _ _ _ _
      | exact stepladderlaw14_awake.mono _
      | exact stepladderlaw14_has.mono _ _ _
      | exact super_Up.mono _ _ _ _ _
      | exact LeO.none _
      | refine LeO.ite ?_ ?_
      | refine LeO.bind ?_ (fun _ => ?_)
    · intro y0 y1 y2 y3 y4 y5
      unfold stepladderlaw14_SuperAll.j1
      repeat' first
      | (with_reducible exact ih0 _ _ _ _ _ _ _ _)
      | (with_reducible exact ih1 _ _ _ _ _ _)
      | (with_reducible exact ih2 _ _ _ _ _ _)
      | (with_reducible exact stepladderlaw14_awake.mono _)
      | (with_reducible exact stepladderlaw14_has.mono _ _ _)
      | (with_reducible exact super_Up.mono _ _ _ _ _)
      | (with_reducible exact LeO.refl _)
      | (with_reducible exact LeO.none _)
      | (with_reducible refine LeO.ite ?_ ?_)
      | (with_reducible refine LeO.bind ?_ (fun _ => ?_))
      | exact ih0 _ _ _ _ _ _ _ _
      | exact ih1 _ _ _ _ _ _
      | exact ih2 _ _ _ _ _ _
      | exact stepladderlaw14_awake.mono _
      | exact stepladderlaw14_has.mono _ _ _
      | exact super_Up.mono _ _ _ _ _
      | exact LeO.none _
      | refine LeO.ite ?_ ?_
      | refine LeO.bind ?_ (fun _ => ?_)
    · intro y0 y1 y2 y3 y4 y5
      unfold stepladderlaw14_SuperAll.l0
      repeat' first
      | (with_reducible exact ih0 _ _ _ _ _ _ _ _)
      | (with_reducible exact ih1 _ _ _ _ _ _)
      | (with_reducible exact ih2 _ _ _ _ _ _)
      | (with_reducible exact stepladderlaw14_awake.mono _)
      | (with_reducible exact stepladderlaw14_has.mono _ _ _)
      | (with_reducible exact super_Up.mono _ _ _ _ _)
      | (with_reducible exact LeO.refl _)
      | (with_reducible exact LeO.none _)
      | (with_reducible refine LeO.ite ?_ ?_)
      | (with_reducible refine LeO.bind ?_ (fun _ => ?_))
      | exact ih0 _ _ _ _ _ _ _ _
      | exact ih1 _ _ _ _ _ _
      | exact ih2 _ _ _ _ _ _
      | exact stepladderlaw14_awake.mono _
      | exact stepladderlaw14_has.mono _ _ _
      | exact super_Up.mono _ _ _ _ _
      | exact LeO.none _
      | refine LeO.ite ?_ ?_
      | refine LeO.bind ?_ (fun _ => ?_)
theorem stepladderlaw14_SuperAll.mono : ∀ a0 a1 a2 a3 a4 a5 k, LeO (stepladderlaw14_SuperAll.f k a0 a1 a2 a3 a4 a5) (stepladderlaw14_SuperAll.f (k + 1) a0 a1 a2 a3 a4 a5) := by
  intro a0 a1 a2 a3 a4 a5 k
  obtain ⟨ih0, ih1, ih2⟩ := stepladderlaw14_SuperAll.mono_l k
  unfold stepladderlaw14_SuperAll.f
  repeat' first
      | (with_reducible exact ih0 _ _ _ _ _ _ _ _)
      | (with_reducible exact ih1 _ _ _ _ _ _)
      | (with_reducible exact ih2 _ _ _ _ _ _)
      | (with_reducible exact stepladderlaw14_awake.mono _)
      | (with_reducible exact stepladderlaw14_has.mono _ _ _)
      | (with_reducible exact super_Up.mono _ _ _ _ _)
      | (with_reducible exact LeO.refl _)
      | (with_reducible exact LeO.none _)
      | (with_reducible refine LeO.ite ?_ ?_)
      | (with_reducible refine LeO.bind ?_ (fun _ => ?_))
      | exact ih0 _ _ _ _ _ _ _ _
      | exact ih1 _ _ _ _ _ _
      | exact ih2 _ _ _ _ _ _
      | exact stepladderlaw14_awake.mono _
      | exact stepladderlaw14_has.mono _ _ _
      | exact super_Up.mono _ _ _ _ _
      | exact LeO.none _
      | refine LeO.ite ?_ ?_
      | refine LeO.bind ?_ (fun _ => ?_)
set_option maxHeartbeats 8000000 in
set_option maxRecDepth 100000 in
theorem stepladderlaw14_SuperAll.calls (k : Nat) (A0 : Option Addr) (c0 : Nat) (l0 : List Int) (a1 : Int) (a2 : Int) (a3 : Int) (a4 : Int) (a5 : Int) (r : Bool) (w : World) (hr0 : Kd.C (Kd.int .i64) w A0 l0.length l0) (hc0 : l0.length ≤ c0) (h : stepladderlaw14_SuperAll.f k l0 a1 a2 a3 a4 a5 = some r) :
    Calls Try.prog 11 #[.slice A0 l0.length c0, .int .i64 a1, .int .i64 a2, .int .i64 a3, .int .i64 a4, .int .i64 a5] w fun e w' => e = .returned (.bool r) ∧ Below w.heap.size w w' := by
  have HR0 := Aside0.mk hr0
  have HC0 := Aside0.mk hc0
  clear hr0 hc0
  have HB := Aside0.mk (Below.refl w.heap.size w)
  have H : ((stepladderlaw14_awake.f k).bind fun t236 => (if t236 = true then (if (l0.length : Int) > 210 then (stepladderlaw14_SuperAll.j0 k l0 a1 a2 a3 a4 a5 t236 true) else (stepladderlaw14_SuperAll.j0 k l0 a1 a2 a3 a4 a5 t236 (decide (a3 > a2)))) else (stepladderlaw14_SuperAll.j0 k l0 a1 a2 a3 a4 a5 t236 true))) = some r := h
  clear h
  replace H := Option.bind_eq_some_iff.mp H
  obtain ⟨t236, A70, H⟩ := H
  replace H : (if t236 = true then (if (l0.length : Int) > 210 then (stepladderlaw14_SuperAll.j0 k l0 a1 a2 a3 a4 a5 t236 true) else (stepladderlaw14_SuperAll.j0 k l0 a1 a2 a3 a4 a5 t236 (decide (a3 > a2)))) else (stepladderlaw14_SuperAll.j0 k l0 a1 a2 a3 a4 a5 t236 true)) = some r := H
  have A7 := Aside0.mk A70
  clear A70
  have HC8 := Aside0.mk H
  clear H
  go_enter Try.func11, Try.ntmps11
  go_upto_region 2 with (first | ((with_reducible refine gate_callee (f := 22) rfl ?_); refine goesL_ (some 20) rfl rfl Try.func22 (by kernel_rfl) rfl #[] rfl (by (try simp only [List.map_toArray, List.map_cons, List.map_nil]); first | done | rfl | (simp only [List.length_drop, List.length_take]; rfl)) ?_; (with_reducible refine (stepladderlaw14_awake.calls k  t236 _ A7.out).mono ?_); rintro e w9 ⟨rfl, hb⟩; refine ⟨_, rfl, ?_⟩; have n0_ := Aside0.mk (below_step (by repeat (first | (with_reducible first | exact HB.out | apply below_alloc | apply pw_below_drewN | apply below_drew1) | exact HB.out)) hb); clear HB; have HB := n0_; clear n0_; (try clear hb); (try clear hb2); (try clear hk); (try clear hi)))
  (try simp only [Act.put, List.setIfInBounds_toArray, List.set_cons_zero, List.set_cons_succ])
  go_cut [32] (fun v32 wc => ∃ (kq : Nat) (x32_7 : Bool), v32 = .bool x32_7 ∧ Aside0 (stepladderlaw14_SuperAll.j0 kq l0 a1 a2 a3 a4 a5 t236 x32_7 = some r) ∧ Aside0 (kq ≤ k) ∧ Aside0 (Below w.heap.size w wc))
  case first =>
    have H := HC8.out
    clear HC8
    by_cases c10 : t236 = true
    · subst c10
      have H1 : (if (l0.length : Int) > 210 then (stepladderlaw14_SuperAll.j0 k l0 a1 a2 a3 a4 a5 true true) else (stepladderlaw14_SuperAll.j0 k l0 a1 a2 a3 a4 a5 true (decide (a3 > a2)))) = some r := by rw [if_pos rfl] at H; exact H
      clear H
      have H := H1
      clear H1
      by_cases c11 : (l0.length : Int) > 210
      · rw [if_pos c11] at H
        have c11b0 : decide (210 < (l0.length : Int)) = true := decide_eq_true c11
        have c11b1 : decide (210 < l0.length) = true := decide_eq_true (by omega)
        clear c11
        (first | rw [c11b0] | (simp only [i64_w, i32_w]; rw [c11b0]) | skip)
        have H' := Aside0.mk H
        clear H
        go_wp2
        go_meet
        case rel => exact ⟨_, (true), (by first | rfl | (simp; done) | (simp [*]; done)), H', ⟨by first | omega | exact Nat.le_refl _⟩, ⟨by repeat (first | (with_reducible first | exact HB.out | apply below_alloc | apply pw_below_drewN | apply below_drew1) | exact HB.out)⟩⟩
      · rw [if_neg c11] at H
        have c11b0 : decide (210 < (l0.length : Int)) = false := decide_eq_false c11
        have c11b1 : decide (210 < l0.length) = false := decide_eq_false (by omega)
        clear c11
        (first | rw [c11b0] | (simp only [i64_w, i32_w]; rw [c11b0]) | skip)
        have H' := Aside0.mk H
        clear H
        go_wp2
        go_meet
        case rel => exact ⟨_, (decide (a3 > a2)), (by first | rfl | (simp; done) | (simp [*]; done)), H', ⟨by first | omega | exact Nat.le_refl _⟩, ⟨by repeat (first | (with_reducible first | exact HB.out | apply below_alloc | apply pw_below_drewN | apply below_drew1) | exact HB.out)⟩⟩
    · replace c10 := Bool.eq_false_iff.mpr c10
      subst c10
      have H1 : (stepladderlaw14_SuperAll.j0 k l0 a1 a2 a3 a4 a5 false true) = some r := by rw [if_neg (show ¬ (false = true) by decide)] at H; exact H
      clear H
      have H := H1
      clear H1
      have H' := Aside0.mk H
      clear H
      go_wp2
      go_meet
      case rel => exact ⟨_, (true), (by first | rfl | (simp; done) | (simp [*]; done)), H', ⟨by first | omega | exact Nat.le_refl _⟩, ⟨by repeat (first | (with_reducible first | exact HB.out | apply below_alloc | apply pw_below_drewN | apply below_drew1) | exact HB.out)⟩⟩
  case rest =>
    clear HC8
    try clear c1
    try clear c2
    try clear p2
    try clear c10
    try clear c11
    try clear c11b0
    try clear c11b1
    obtain ⟨kq, x32_7, rfl, HA, HJ7, HB⟩ := hcut
    cases kq with
    | zero => exact absurd HA.out (by simp [stepladderlaw14_SuperAll.j0])
    | succ kj7 =>
      have H := HA.out
      clear HA
      simp only [stepladderlaw14_SuperAll.j0] at H
      by_cases c12 : x32_7 = true
      · subst c12
        have H1 : (some t236) = some r := by rw [if_pos rfl] at H; exact H
        clear H
        have H := H1
        clear H1
        obtain rfl := Option.some.inj H
        go_wp2
        go_ret
        exact ⟨by first | rfl | (simp [errW_none, errW_some] <;> rfl) | (simp [*, errW_none, errW_some] <;> rfl), by repeat (first | (with_reducible first | exact HB.out | apply below_alloc | apply pw_below_drewN | apply below_drew1) | exact HB.out)⟩
      · replace c12 := Bool.eq_false_iff.mpr c12
        subst c12
        have H1 : ((super_Prefix.f l0 (wrap64 ((l0.length : Int) + 1)) a1).bind fun bt237 => (if bt237.2 = true then (stepladderlaw14_SuperAll.j1 kj7 l0 a2 a3 a4 a5 ((bt237.1.length : Int) != (wrap64 ((l0.length : Int) - a1)))) else (stepladderlaw14_SuperAll.j1 kj7 l0 a2 a3 a4 a5 false))) = some r := by rw [if_neg (show ¬ (false = true) by decide)] at H; exact H
        clear H
        have H := H1
        clear H1
        replace H := Option.bind_eq_some_iff.mp H
        obtain ⟨⟨t237, t238⟩, A130, H⟩ := H
        replace H : (if t238 = true then (stepladderlaw14_SuperAll.j1 kj7 l0 a2 a3 a4 a5 ((t237.length : Int) != (wrap64 ((l0.length : Int) - a1)))) else (stepladderlaw14_SuperAll.j1 kj7 l0 a2 a3 a4 a5 false)) = some r := H
        have A13 := Aside0.mk A130
        clear A130
        have HC14 := Aside0.mk H
        clear H
        go_upto_region 5 with (first | ((with_reducible refine gate_callee (f := 23) rfl ?_); refine goesL_ (some 40) rfl rfl Try.func23 (by kernel_rfl) rfl #[.slice A0 l0.length c0, .int .i64 (wrap64 ((l0.length : Int) + 1)), .int .i64 a1] rfl (by (try simp only [List.map_toArray, List.map_cons, List.map_nil]); first | done | rfl | (simp only [List.length_drop, List.length_take]; rfl)) ?_; (with_reducible refine (super_Prefix.calls _ _ l0 (wrap64 ((l0.length : Int) + 1)) a1 t237 t238 _ ?side1 ?side2 A13.out).mono ?_); (case side1 => repeat (first | exact (Kd.C_below HR0.out HB.out) | (with_reducible refine Kd.C_alloc ?_ _) | (with_reducible refine Kd.C_drewN ?_ _) | (with_reducible refine Kd.C_drew ?_))); (case side2 => exact HC0.out); rintro e w15 ⟨v239, rfl, ho0, hb⟩; refine ⟨_, rfl, ?_⟩; have n0_ := Aside0.mk (Kd.R_lower ho0 (below_size (by repeat (first | (with_reducible first | exact HB.out | apply below_alloc | apply pw_below_drewN | apply below_drew1) | exact HB.out)))); have n1_ := Aside0.mk (below_step (by repeat (first | (with_reducible first | exact HB.out | apply below_alloc | apply pw_below_drewN | apply below_drew1) | exact HB.out)) hb); clear HB; have HO240 := n0_; have HB := n1_; clear n0_ n1_; (try clear hb); (try clear hb2); (try clear hk); (try clear hi); (try clear ho0)))
        (try simp only [Act.put, List.setIfInBounds_toArray, List.set_cons_zero, List.set_cons_succ])
        go_cut [52] (fun v52 wc => ∃ (kq : Nat) (x52_13 : Bool), v52 = .bool x52_13 ∧ Aside0 (stepladderlaw14_SuperAll.j1 kq l0 a2 a3 a4 a5 x52_13 = some r) ∧ Aside0 (kq ≤ kj7) ∧ Aside0 (Below w.heap.size w wc))
        case first =>
          have H := HC14.out
          clear HC14
          by_cases c16 : t238 = true
          · subst c16
            have H1 : (stepladderlaw14_SuperAll.j1 kj7 l0 a2 a3 a4 a5 ((t237.length : Int) != (wrap64 ((l0.length : Int) - a1)))) = some r := by rw [if_pos rfl] at H; exact H
            clear H
            have H := H1
            clear H1
            have H' := Aside0.mk H
            clear H
            obtain ⟨Ao17, co17, eo17⟩ := Kd.R_slice HO240.out
            subst eo17
            go_wp2
            go_meet
            case rel => exact ⟨_, (((t237.length : Int) != (wrap64 ((l0.length : Int) - a1)))), (by first | rfl | (simp; done) | (simp [*]; done)), H', ⟨by have := HJ7.out; first | omega | exact Nat.le_refl _⟩, ⟨by repeat (first | (with_reducible first | exact HB.out | apply below_alloc | apply pw_below_drewN | apply below_drew1) | exact HB.out)⟩⟩
          · replace c16 := Bool.eq_false_iff.mpr c16
            subst c16
            have H1 : (stepladderlaw14_SuperAll.j1 kj7 l0 a2 a3 a4 a5 false) = some r := by rw [if_neg (show ¬ (false = true) by decide)] at H; exact H
            clear H
            have H := H1
            clear H1
            have H' := Aside0.mk H
            clear H
            go_wp2
            go_meet
            case rel => exact ⟨_, (false), (by first | rfl | (simp; done) | (simp [*]; done)), H', ⟨by have := HJ7.out; first | omega | exact Nat.le_refl _⟩, ⟨by repeat (first | (with_reducible first | exact HB.out | apply below_alloc | apply pw_below_drewN | apply below_drew1) | exact HB.out)⟩⟩
        case rest =>
          clear HC14
          try clear c1
          try clear c2
          try clear p2
          try clear p6
          try clear c10
          try clear c11
          try clear c11b0
          try clear c11b1
          try clear c12
          try clear c16
          try clear p2
          obtain ⟨kq, x52_13, rfl, HA, HJ13, HB⟩ := hcut
          cases kq with
          | zero => exact absurd HA.out (by simp [stepladderlaw14_SuperAll.j1])
          | succ kj13 =>
            have H := HA.out
            clear HA
            simp only [stepladderlaw14_SuperAll.j1] at H
            by_cases c18 : x52_13 = true
            · subst c18
              have H1 : (some false) = some r := by rw [if_pos rfl] at H; exact H
              clear H
              have H := H1
              clear H1
              obtain rfl := Option.some.inj H
              go_wp2
              go_ret
              exact ⟨by first | rfl | (simp [errW_none, errW_some] <;> rfl) | (simp [*, errW_none, errW_some] <;> rfl), by repeat (first | (with_reducible first | exact HB.out | apply below_alloc | apply pw_below_drewN | apply below_drew1) | exact HB.out)⟩
            · replace c18 := Bool.eq_false_iff.mpr c18
              subst c18
              have H1 : ((super_Up.f kj13 l0 a4 a5 a2).bind fun t241 => ((super_Up.f kj13 l0 a4 a5 a3).bind fun t244 => (stepladderlaw14_SuperAll.l0 kj13 l0 a4 a5 t241 t244 0))) = some r := by rw [if_neg (show ¬ (false = true) by decide)] at H; exact H
              clear H
              have H := H1
              clear H1
              replace H := Option.bind_eq_some_iff.mp H
              obtain ⟨t241, A190, H⟩ := H
              replace H : ((super_Up.f kj13 l0 a4 a5 a3).bind fun t244 => (stepladderlaw14_SuperAll.l0 kj13 l0 a4 a5 t241 t244 0)) = some r := H
              have A19 := Aside0.mk A190
              clear A190
              replace H := Option.bind_eq_some_iff.mp H
              obtain ⟨t244, A200, H⟩ := H
              replace H : (stepladderlaw14_SuperAll.l0 kj13 l0 a4 a5 t241 t244 0) = some r := H
              have A20 := Aside0.mk A200
              clear A200
              have H' := Aside0.mk H
              clear H
              go_wp2_with (first | ((with_reducible refine gate_callee (f := 24) rfl ?_); refine goesL_ (some 57) rfl rfl Try.func24 (by kernel_rfl) rfl #[.slice A0 l0.length c0, .int .i64 a4, .int .i64 a5, .int .i64 a2] rfl (by (try simp only [List.map_toArray, List.map_cons, List.map_nil]); first | done | rfl | (simp only [List.length_drop, List.length_take]; rfl)) ?_; (with_reducible refine (super_Up.calls kj13 _ _ l0 a4 a5 a2 t241 _ ?side1 ?side2 A19.out).mono ?_); (case side1 => repeat (first | exact (Kd.C_below HR0.out HB.out) | (with_reducible refine Kd.C_alloc ?_ _) | (with_reducible refine Kd.C_drewN ?_ _) | (with_reducible refine Kd.C_drew ?_))); (case side2 => exact HC0.out); rintro e w21 ⟨v242, rfl, ho0, hb⟩; refine ⟨_, rfl, ?_⟩; have n0_ := Aside0.mk (Kd.R_lower ho0 (below_size (by repeat (first | (with_reducible first | exact HB.out | apply below_alloc | apply pw_below_drewN | apply below_drew1) | exact HB.out)))); have n1_ := Aside0.mk (below_step (by repeat (first | (with_reducible first | exact HB.out | apply below_alloc | apply pw_below_drewN | apply below_drew1) | exact HB.out)) hb); clear HB; have HO243 := n0_; have HB := n1_; clear n0_ n1_; (try clear hb); (try clear hb2); (try clear hk); (try clear hi); (try clear ho0)) | ((with_reducible refine gate_callee (f := 24) rfl ?_); refine goesL_ (some 62) rfl rfl Try.func24 (by kernel_rfl) rfl #[.slice A0 l0.length c0, .int .i64 a4, .int .i64 a5, .int .i64 a3] rfl (by (try simp only [List.map_toArray, List.map_cons, List.map_nil]); first | done | rfl | (simp only [List.length_drop, List.length_take]; rfl)) ?_; (with_reducible refine (super_Up.calls kj13 _ _ l0 a4 a5 a3 t244 _ ?side1 ?side2 A20.out).mono ?_); (case side1 => repeat (first | exact (Kd.C_below HR0.out HB.out) | (with_reducible refine Kd.C_alloc ?_ _) | (with_reducible refine Kd.C_drewN ?_ _) | (with_reducible refine Kd.C_drew ?_))); (case side2 => exact HC0.out); rintro e w22 ⟨v245, rfl, ho0, hb⟩; refine ⟨_, rfl, ?_⟩; have n0_ := Aside0.mk (Kd.R_elder' (by (with_reducible repeat (first | apply Kd.R_alloc | apply Kd.R_drewN | apply Kd.R_drew)); exact HO243.out) (Kd.R_base ho0) hb); have n1_ := Aside0.mk (Kd.R_lower (Kd.R_new' ho0 (Kd.R_lt (by (with_reducible repeat (first | apply Kd.R_alloc | apply Kd.R_drewN | apply Kd.R_drew)); exact HO243.out))) (below_size (by repeat (first | (with_reducible first | exact HB.out | apply below_alloc | apply pw_below_drewN | apply below_drew1) | exact HB.out)))); have n2_ := Aside0.mk (below_step (by repeat (first | (with_reducible first | exact HB.out | apply below_alloc | apply pw_below_drewN | apply below_drew1) | exact HB.out)) hb); clear HO243; clear HB; have HO243 := n0_; have HO246 := n1_; have HB := n2_; clear n0_ n1_ n2_; (try clear hb); (try clear hb2); (try clear hk); (try clear hi); (try clear ho0)))
              go_loopg [18] kj13 (fun kq v18 w' => ∃ (x18_3 : Int), v18 = .int .i64 x18_3 ∧ Aside0 (stepladderlaw14_SuperAll.l0 kq l0 a4 a5 t241 t244 x18_3 = some r) ∧ Aside0 (kq ≤ kj13) ∧ Aside0 (Kd.R (Kd.int .i64) 3 w' w.heap.size (fun k_ => some k_ ≠ (v245 : Value).ownBlock) v242 t241) ∧ Aside0 (Kd.R (Kd.int .i64) 3 w' w.heap.size (fun k_ => some k_ ≠ (v242 : Value).ownBlock) v245 t244) ∧ Aside0 (Below w.heap.size w w'))
              case atStart => exact ⟨(0), (by first | rfl | (simp; done) | (simp [*]; done)), H', ⟨Nat.le_refl _⟩, ⟨by (with_reducible repeat (first | apply Kd.R_alloc | apply Kd.R_drewN | apply Kd.R_drew)); exact Kd.R_mono HO243.out (fun _ hk => hk.2)⟩, ⟨by (with_reducible repeat (first | apply Kd.R_alloc | apply Kd.R_drewN | apply Kd.R_drew)); exact Kd.R_mono HO246.out (fun _ hk => hk.2)⟩, ⟨by repeat (first | (with_reducible first | exact HB.out | apply below_alloc | apply pw_below_drewN | apply below_drew1) | exact HB.out)⟩⟩
              case round =>
                clear H'
                try clear c1
                try clear c2
                try clear p2
                try clear p6
                try clear c10
                try clear c11
                try clear c11b0
                try clear c11b1
                try clear c12
                try clear c16
                try clear c18
                try clear c22
                try clear p2
                try clear p6
                obtain ⟨x18_3, rfl, HA, HK3, HO_16, HO_17, HB⟩ := hrel
                cases gk with
                | zero => exact absurd HA.out (by simp [stepladderlaw14_SuperAll.l0])
                | succ k3 =>
                  have H := HA.out
                  clear HA
                  simp only [stepladderlaw14_SuperAll.l0] at H
                  by_cases c23 : x18_3 < (t241.length : Int)
                  · rw [if_pos c23] at H
                    have c23b0 : decide (x18_3 < (t241.length : Int)) = true := decide_eq_true c23
                    clear c23
                    by_cases c24 : 0 ≤ x18_3
                    · rw [if_pos c24] at H
                      have c24b0 : decide (0 ≤ x18_3) = true := decide_eq_true c24
                      clear c24
                      replace H := Option.bind_eq_some_iff.mp H
                      obtain ⟨t248, A250, H⟩ := H
                      replace H : (if t248 = true then (if (rd t241 x18_3) < a4 then (some false) else (if (rd t241 x18_3) ≥ a5 then (some false) else (if (rd t241 x18_3) < 0 then (some false) else (if (rd t241 x18_3) ≥ (l0.length : Int) then (some false) else (stepladderlaw14_SuperAll.l0 k3 l0 a4 a5 t241 t244 (wrap64 (x18_3 + 1))))))) else (some false)) = some r := H
                      have A25 := Aside0.mk A250
                      clear A250
                      by_cases c26 : t248 = true
                      · subst c26
                        have H1 : (if (rd t241 x18_3) < a4 then (some false) else (if (rd t241 x18_3) ≥ a5 then (some false) else (if (rd t241 x18_3) < 0 then (some false) else (if (rd t241 x18_3) ≥ (l0.length : Int) then (some false) else (stepladderlaw14_SuperAll.l0 k3 l0 a4 a5 t241 t244 (wrap64 (x18_3 + 1))))))) = some r := by rw [if_pos rfl] at H; exact H
                        clear H
                        have H := H1
                        clear H1
                        by_cases c27 : (rd t241 x18_3) < a4
                        · rw [if_pos c27] at H
                          have c27b0 : decide ((rd t241 x18_3) < a4) = true := decide_eq_true c27
                          clear c27
                          obtain rfl := Option.some.inj H
                          obtain ⟨Ao28, co28, eo28⟩ := Kd.R_slice HO_16.out
                          subst eo28
                          have p247 : 0 ≤ (x18_3 : Int) := of_decide_eq_true (by first | (with_reducible assumption) | assumption)
                          have q247 : x18_3 < (t241.length : Int) := of_decide_eq_true (by first | (with_reducible assumption) | assumption)
                          obtain ⟨ad247, e247, hx247_0⟩ := Kd.at_int (Kd.R_reads' HO_16.out).2.2 x18_3 p247 q247
                          cases e247
                          replace p247 := eq_true p247
                          replace q247 := eq_true q247
                          obtain ⟨Ao29, co29, eo29⟩ := Kd.R_slice HO_17.out
                          subst eo29
                          go_wp2_with (first | ((with_reducible refine gate_callee (f := 25) rfl ?_); refine goesL_ (some 74) rfl rfl Try.func25 (by kernel_rfl) rfl #[.slice Ao29 t244.length co29, .int .i64 (rd t241 x18_3)] rfl (by (try simp only [List.map_toArray, List.map_cons, List.map_nil]); first | done | rfl | (simp only [List.length_drop, List.length_take]; rfl)) ?_; (with_reducible refine (stepladderlaw14_has.calls k3 _ _ t244 (rd t241 x18_3) true _ ?side1 ?side2 A25.out).mono ?_); (case side1 => repeat (first | exact (Kd.R_reads' HO_17.out).2.2 | (with_reducible refine Kd.C_alloc ?_ _) | (with_reducible refine Kd.C_drewN ?_ _) | (with_reducible refine Kd.C_drew ?_))); (case side2 => exact (Kd.R_reads' HO_17.out).2.1); rintro e w' ⟨rfl, ⟨nd, rfl⟩⟩; refine ⟨_, rfl, ?_⟩; have p249 : 0 ≤ (x18_3 : Int) := of_decide_eq_true (by first | (with_reducible assumption) | assumption); have q249 : x18_3 < (t241.length : Int) := of_decide_eq_true (by first | (with_reducible assumption) | assumption); obtain ⟨ad249, e249, hx249_0⟩ := Kd.at_int (Kd.R_reads' HO_16.out).2.2 x18_3 p249 q249; obtain rfl : ad247 = ad249 := (by injection e249); replace p249 := eq_true p249; replace q249 := eq_true q249))
                          go_ret
                          exact ⟨by first | rfl | (simp [errW_none, errW_some] <;> rfl) | (simp [*, errW_none, errW_some] <;> rfl), by repeat (first | (with_reducible first | exact HB.out | apply below_alloc | apply pw_below_drewN | apply below_drew1) | exact HB.out)⟩
                        · rw [if_neg c27] at H
                          have c27b0 : decide ((rd t241 x18_3) < a4) = false := decide_eq_false c27
                          clear c27
                          by_cases c30 : (rd t241 x18_3) ≥ a5
                          · rw [if_pos c30] at H
                            have c30b0 : decide (a5 ≤ (rd t241 x18_3)) = true := decide_eq_true c30
                            clear c30
                            obtain rfl := Option.some.inj H
                            obtain ⟨Ao31, co31, eo31⟩ := Kd.R_slice HO_16.out
                            subst eo31
                            have p247 : 0 ≤ (x18_3 : Int) := of_decide_eq_true (by first | (with_reducible assumption) | assumption)
                            have q247 : x18_3 < (t241.length : Int) := of_decide_eq_true (by first | (with_reducible assumption) | assumption)
                            obtain ⟨ad247, e247, hx247_0⟩ := Kd.at_int (Kd.R_reads' HO_16.out).2.2 x18_3 p247 q247
                            cases e247
                            replace p247 := eq_true p247
                            replace q247 := eq_true q247
                            obtain ⟨Ao32, co32, eo32⟩ := Kd.R_slice HO_17.out
                            subst eo32
                            go_wp2_with (first | ((with_reducible refine gate_callee (f := 25) rfl ?_); refine goesL_ (some 74) rfl rfl Try.func25 (by kernel_rfl) rfl #[.slice Ao32 t244.length co32, .int .i64 (rd t241 x18_3)] rfl (by (try simp only [List.map_toArray, List.map_cons, List.map_nil]); first | done | rfl | (simp only [List.length_drop, List.length_take]; rfl)) ?_; (with_reducible refine (stepladderlaw14_has.calls k3 _ _ t244 (rd t241 x18_3) true _ ?side1 ?side2 A25.out).mono ?_); (case side1 => repeat (first | exact (Kd.R_reads' HO_17.out).2.2 | (with_reducible refine Kd.C_alloc ?_ _) | (with_reducible refine Kd.C_drewN ?_ _) | (with_reducible refine Kd.C_drew ?_))); (case side2 => exact (Kd.R_reads' HO_17.out).2.1); rintro e w' ⟨rfl, ⟨nd, rfl⟩⟩; refine ⟨_, rfl, ?_⟩; have p249 : 0 ≤ (x18_3 : Int) := of_decide_eq_true (by first | (with_reducible assumption) | assumption); have q249 : x18_3 < (t241.length : Int) := of_decide_eq_true (by first | (with_reducible assumption) | assumption); obtain ⟨ad249, e249, hx249_0⟩ := Kd.at_int (Kd.R_reads' HO_16.out).2.2 x18_3 p249 q249; obtain rfl : ad247 = ad249 := (by injection e249); replace p249 := eq_true p249; replace q249 := eq_true q249; have p250 : 0 ≤ (x18_3 : Int) := of_decide_eq_true (by first | (with_reducible assumption) | assumption); have q250 : x18_3 < (t241.length : Int) := of_decide_eq_true (by first | (with_reducible assumption) | assumption); obtain ⟨ad250, e250, hx250_0⟩ := Kd.at_int (Kd.R_reads' HO_16.out).2.2 x18_3 p250 q250; obtain rfl : ad247 = ad250 := (by injection e250); replace p250 := eq_true p250; replace q250 := eq_true q250))
                            go_ret
                            exact ⟨by first | rfl | (simp [errW_none, errW_some] <;> rfl) | (simp [*, errW_none, errW_some] <;> rfl), by repeat (first | (with_reducible first | exact HB.out | apply below_alloc | apply pw_below_drewN | apply below_drew1) | exact HB.out)⟩
                          · rw [if_neg c30] at H
                            have c30b0 : decide (a5 ≤ (rd t241 x18_3)) = false := decide_eq_false c30
                            clear c30
                            by_cases c33 : (rd t241 x18_3) < 0
                            · rw [if_pos c33] at H
                              have c33b0 : decide ((rd t241 x18_3) < 0) = true := decide_eq_true c33
                              clear c33
                              obtain rfl := Option.some.inj H
                              obtain ⟨Ao34, co34, eo34⟩ := Kd.R_slice HO_16.out
                              subst eo34
                              have p247 : 0 ≤ (x18_3 : Int) := of_decide_eq_true (by first | (with_reducible assumption) | assumption)
                              have q247 : x18_3 < (t241.length : Int) := of_decide_eq_true (by first | (with_reducible assumption) | assumption)
                              obtain ⟨ad247, e247, hx247_0⟩ := Kd.at_int (Kd.R_reads' HO_16.out).2.2 x18_3 p247 q247
                              cases e247
                              replace p247 := eq_true p247
                              replace q247 := eq_true q247
                              obtain ⟨Ao35, co35, eo35⟩ := Kd.R_slice HO_17.out
                              subst eo35
                              go_wp2_with (first | ((with_reducible refine gate_callee (f := 25) rfl ?_); refine goesL_ (some 74) rfl rfl Try.func25 (by kernel_rfl) rfl #[.slice Ao35 t244.length co35, .int .i64 (rd t241 x18_3)] rfl (by (try simp only [List.map_toArray, List.map_cons, List.map_nil]); first | done | rfl | (simp only [List.length_drop, List.length_take]; rfl)) ?_; (with_reducible refine (stepladderlaw14_has.calls k3 _ _ t244 (rd t241 x18_3) true _ ?side1 ?side2 A25.out).mono ?_); (case side1 => repeat (first | exact (Kd.R_reads' HO_17.out).2.2 | (with_reducible refine Kd.C_alloc ?_ _) | (with_reducible refine Kd.C_drewN ?_ _) | (with_reducible refine Kd.C_drew ?_))); (case side2 => exact (Kd.R_reads' HO_17.out).2.1); rintro e w' ⟨rfl, ⟨nd, rfl⟩⟩; refine ⟨_, rfl, ?_⟩; have p249 : 0 ≤ (x18_3 : Int) := of_decide_eq_true (by first | (with_reducible assumption) | assumption); have q249 : x18_3 < (t241.length : Int) := of_decide_eq_true (by first | (with_reducible assumption) | assumption); obtain ⟨ad249, e249, hx249_0⟩ := Kd.at_int (Kd.R_reads' HO_16.out).2.2 x18_3 p249 q249; obtain rfl : ad247 = ad249 := (by injection e249); replace p249 := eq_true p249; replace q249 := eq_true q249; have p250 : 0 ≤ (x18_3 : Int) := of_decide_eq_true (by first | (with_reducible assumption) | assumption); have q250 : x18_3 < (t241.length : Int) := of_decide_eq_true (by first | (with_reducible assumption) | assumption); obtain ⟨ad250, e250, hx250_0⟩ := Kd.at_int (Kd.R_reads' HO_16.out).2.2 x18_3 p250 q250; obtain rfl : ad247 = ad250 := (by injection e250); replace p250 := eq_true p250; replace q250 := eq_true q250; have p251 : 0 ≤ (x18_3 : Int) := of_decide_eq_true (by first | (with_reducible assumption) | assumption); have q251 : x18_3 < (t241.length : Int) := of_decide_eq_true (by first | (with_reducible assumption) | assumption); obtain ⟨ad251, e251, hx251_0⟩ := Kd.at_int (Kd.R_reads' HO_16.out).2.2 x18_3 p251 q251; obtain rfl : ad247 = ad251 := (by injection e251); replace p251 := eq_true p251; replace q251 := eq_true q251))
                              go_ret
                              exact ⟨by first | rfl | (simp [errW_none, errW_some] <;> rfl) | (simp [*, errW_none, errW_some] <;> rfl), by repeat (first | (with_reducible first | exact HB.out | apply below_alloc | apply pw_below_drewN | apply below_drew1) | exact HB.out)⟩
                            · rw [if_neg c33] at H
                              have c33b0 : decide ((rd t241 x18_3) < 0) = false := decide_eq_false c33
                              clear c33
                              by_cases c36 : (rd t241 x18_3) ≥ (l0.length : Int)
                              · rw [if_pos c36] at H
                                have c36b0 : decide ((l0.length : Int) ≤ (rd t241 x18_3)) = true := decide_eq_true c36
                                clear c36
                                obtain rfl := Option.some.inj H
                                obtain ⟨Ao37, co37, eo37⟩ := Kd.R_slice HO_16.out
                                subst eo37
                                have p247 : 0 ≤ (x18_3 : Int) := of_decide_eq_true (by first | (with_reducible assumption) | assumption)
                                have q247 : x18_3 < (t241.length : Int) := of_decide_eq_true (by first | (with_reducible assumption) | assumption)
                                obtain ⟨ad247, e247, hx247_0⟩ := Kd.at_int (Kd.R_reads' HO_16.out).2.2 x18_3 p247 q247
                                cases e247
                                replace p247 := eq_true p247
                                replace q247 := eq_true q247
                                obtain ⟨Ao38, co38, eo38⟩ := Kd.R_slice HO_17.out
                                subst eo38
                                go_wp2_with (first | ((with_reducible refine gate_callee (f := 25) rfl ?_); refine goesL_ (some 74) rfl rfl Try.func25 (by kernel_rfl) rfl #[.slice Ao38 t244.length co38, .int .i64 (rd t241 x18_3)] rfl (by (try simp only [List.map_toArray, List.map_cons, List.map_nil]); first | done | rfl | (simp only [List.length_drop, List.length_take]; rfl)) ?_; (with_reducible refine (stepladderlaw14_has.calls k3 _ _ t244 (rd t241 x18_3) true _ ?side1 ?side2 A25.out).mono ?_); (case side1 => repeat (first | exact (Kd.R_reads' HO_17.out).2.2 | (with_reducible refine Kd.C_alloc ?_ _) | (with_reducible refine Kd.C_drewN ?_ _) | (with_reducible refine Kd.C_drew ?_))); (case side2 => exact (Kd.R_reads' HO_17.out).2.1); rintro e w' ⟨rfl, ⟨nd, rfl⟩⟩; refine ⟨_, rfl, ?_⟩; have p249 : 0 ≤ (x18_3 : Int) := of_decide_eq_true (by first | (with_reducible assumption) | assumption); have q249 : x18_3 < (t241.length : Int) := of_decide_eq_true (by first | (with_reducible assumption) | assumption); obtain ⟨ad249, e249, hx249_0⟩ := Kd.at_int (Kd.R_reads' HO_16.out).2.2 x18_3 p249 q249; obtain rfl : ad247 = ad249 := (by injection e249); replace p249 := eq_true p249; replace q249 := eq_true q249; have p250 : 0 ≤ (x18_3 : Int) := of_decide_eq_true (by first | (with_reducible assumption) | assumption); have q250 : x18_3 < (t241.length : Int) := of_decide_eq_true (by first | (with_reducible assumption) | assumption); obtain ⟨ad250, e250, hx250_0⟩ := Kd.at_int (Kd.R_reads' HO_16.out).2.2 x18_3 p250 q250; obtain rfl : ad247 = ad250 := (by injection e250); replace p250 := eq_true p250; replace q250 := eq_true q250; have p251 : 0 ≤ (x18_3 : Int) := of_decide_eq_true (by first | (with_reducible assumption) | assumption); have q251 : x18_3 < (t241.length : Int) := of_decide_eq_true (by first | (with_reducible assumption) | assumption); obtain ⟨ad251, e251, hx251_0⟩ := Kd.at_int (Kd.R_reads' HO_16.out).2.2 x18_3 p251 q251; obtain rfl : ad247 = ad251 := (by injection e251); replace p251 := eq_true p251; replace q251 := eq_true q251; have p252 : 0 ≤ (x18_3 : Int) := of_decide_eq_true (by first | (with_reducible assumption) | assumption); have q252 : x18_3 < (t241.length : Int) := of_decide_eq_true (by first | (with_reducible assumption) | assumption); obtain ⟨ad252, e252, hx252_0⟩ := Kd.at_int (Kd.R_reads' HO_16.out).2.2 x18_3 p252 q252; obtain rfl : ad247 = ad252 := (by injection e252); replace p252 := eq_true p252; replace q252 := eq_true q252))
                                go_ret
                                exact ⟨by first | rfl | (simp [errW_none, errW_some] <;> rfl) | (simp [*, errW_none, errW_some] <;> rfl), by repeat (first | (with_reducible first | exact HB.out | apply below_alloc | apply pw_below_drewN | apply below_drew1) | exact HB.out)⟩
                              · rw [if_neg c36] at H
                                have c36b0 : decide ((l0.length : Int) ≤ (rd t241 x18_3)) = false := decide_eq_false c36
                                clear c36
                                have H' := Aside0.mk H
                                clear H
                                obtain ⟨Ao39, co39, eo39⟩ := Kd.R_slice HO_16.out
                                subst eo39
                                have p247 : 0 ≤ (x18_3 : Int) := of_decide_eq_true (by first | (with_reducible assumption) | assumption)
                                have q247 : x18_3 < (t241.length : Int) := of_decide_eq_true (by first | (with_reducible assumption) | assumption)
                                obtain ⟨ad247, e247, hx247_0⟩ := Kd.at_int (Kd.R_reads' HO_16.out).2.2 x18_3 p247 q247
                                cases e247
                                replace p247 := eq_true p247
                                replace q247 := eq_true q247
                                obtain ⟨Ao40, co40, eo40⟩ := Kd.R_slice HO_17.out
                                subst eo40
                                go_wp2_with (first | ((with_reducible refine gate_callee (f := 25) rfl ?_); refine goesL_ (some 74) rfl rfl Try.func25 (by kernel_rfl) rfl #[.slice Ao40 t244.length co40, .int .i64 (rd t241 x18_3)] rfl (by (try simp only [List.map_toArray, List.map_cons, List.map_nil]); first | done | rfl | (simp only [List.length_drop, List.length_take]; rfl)) ?_; (with_reducible refine (stepladderlaw14_has.calls k3 _ _ t244 (rd t241 x18_3) true _ ?side1 ?side2 A25.out).mono ?_); (case side1 => repeat (first | exact (Kd.R_reads' HO_17.out).2.2 | (with_reducible refine Kd.C_alloc ?_ _) | (with_reducible refine Kd.C_drewN ?_ _) | (with_reducible refine Kd.C_drew ?_))); (case side2 => exact (Kd.R_reads' HO_17.out).2.1); rintro e w' ⟨rfl, ⟨nd, rfl⟩⟩; refine ⟨_, rfl, ?_⟩; have p249 : 0 ≤ (x18_3 : Int) := of_decide_eq_true (by first | (with_reducible assumption) | assumption); have q249 : x18_3 < (t241.length : Int) := of_decide_eq_true (by first | (with_reducible assumption) | assumption); obtain ⟨ad249, e249, hx249_0⟩ := Kd.at_int (Kd.R_reads' HO_16.out).2.2 x18_3 p249 q249; obtain rfl : ad247 = ad249 := (by injection e249); replace p249 := eq_true p249; replace q249 := eq_true q249; have p250 : 0 ≤ (x18_3 : Int) := of_decide_eq_true (by first | (with_reducible assumption) | assumption); have q250 : x18_3 < (t241.length : Int) := of_decide_eq_true (by first | (with_reducible assumption) | assumption); obtain ⟨ad250, e250, hx250_0⟩ := Kd.at_int (Kd.R_reads' HO_16.out).2.2 x18_3 p250 q250; obtain rfl : ad247 = ad250 := (by injection e250); replace p250 := eq_true p250; replace q250 := eq_true q250; have p251 : 0 ≤ (x18_3 : Int) := of_decide_eq_true (by first | (with_reducible assumption) | assumption); have q251 : x18_3 < (t241.length : Int) := of_decide_eq_true (by first | (with_reducible assumption) | assumption); obtain ⟨ad251, e251, hx251_0⟩ := Kd.at_int (Kd.R_reads' HO_16.out).2.2 x18_3 p251 q251; obtain rfl : ad247 = ad251 := (by injection e251); replace p251 := eq_true p251; replace q251 := eq_true q251; have p252 : 0 ≤ (x18_3 : Int) := of_decide_eq_true (by first | (with_reducible assumption) | assumption); have q252 : x18_3 < (t241.length : Int) := of_decide_eq_true (by first | (with_reducible assumption) | assumption); obtain ⟨ad252, e252, hx252_0⟩ := Kd.at_int (Kd.R_reads' HO_16.out).2.2 x18_3 p252 q252; obtain rfl : ad247 = ad252 := (by injection e252); replace p252 := eq_true p252; replace q252 := eq_true q252))
                                go_roundg k3
                                case measure => have := HJ7.out; have := HJ13.out; have := HK3.out; omega
                                case rel => exact ⟨(wrap64 (x18_3 + 1)), (by first | rfl | (simp; done) | (simp [*]; done)), H', ⟨by have := HJ7.out; have := HJ13.out; have := HK3.out; omega⟩, ⟨by (with_reducible repeat (first | apply Kd.R_alloc | apply Kd.R_drewN | apply Kd.R_drew)); exact HO_16.out⟩, ⟨by (with_reducible repeat (first | apply Kd.R_alloc | apply Kd.R_drewN | apply Kd.R_drew)); exact HO_17.out⟩, ⟨by repeat (first | (with_reducible first | exact HB.out | apply below_alloc | apply pw_below_drewN | apply below_drew1) | exact HB.out)⟩⟩
                      · replace c26 := Bool.eq_false_iff.mpr c26
                        subst c26
                        have H1 : (some false) = some r := by rw [if_neg (show ¬ (false = true) by decide)] at H; exact H
                        clear H
                        have H := H1
                        clear H1
                        obtain rfl := Option.some.inj H
                        obtain ⟨Ao41, co41, eo41⟩ := Kd.R_slice HO_16.out
                        subst eo41
                        have p247 : 0 ≤ (x18_3 : Int) := of_decide_eq_true (by first | (with_reducible assumption) | assumption)
                        have q247 : x18_3 < (t241.length : Int) := of_decide_eq_true (by first | (with_reducible assumption) | assumption)
                        obtain ⟨ad247, e247, hx247_0⟩ := Kd.at_int (Kd.R_reads' HO_16.out).2.2 x18_3 p247 q247
                        cases e247
                        replace p247 := eq_true p247
                        replace q247 := eq_true q247
                        obtain ⟨Ao42, co42, eo42⟩ := Kd.R_slice HO_17.out
                        subst eo42
                        go_wp2_with (first | ((with_reducible refine gate_callee (f := 25) rfl ?_); refine goesL_ (some 74) rfl rfl Try.func25 (by kernel_rfl) rfl #[.slice Ao42 t244.length co42, .int .i64 (rd t241 x18_3)] rfl (by (try simp only [List.map_toArray, List.map_cons, List.map_nil]); first | done | rfl | (simp only [List.length_drop, List.length_take]; rfl)) ?_; (with_reducible refine (stepladderlaw14_has.calls k3 _ _ t244 (rd t241 x18_3) false _ ?side1 ?side2 A25.out).mono ?_); (case side1 => repeat (first | exact (Kd.R_reads' HO_17.out).2.2 | (with_reducible refine Kd.C_alloc ?_ _) | (with_reducible refine Kd.C_drewN ?_ _) | (with_reducible refine Kd.C_drew ?_))); (case side2 => exact (Kd.R_reads' HO_17.out).2.1); rintro e w' ⟨rfl, ⟨nd, rfl⟩⟩; refine ⟨_, rfl, ?_⟩))
                        go_ret
                        exact ⟨by first | rfl | (simp [errW_none, errW_some] <;> rfl) | (simp [*, errW_none, errW_some] <;> rfl), by repeat (first | (with_reducible first | exact HB.out | apply below_alloc | apply pw_below_drewN | apply below_drew1) | exact HB.out)⟩
                    · rw [if_neg c24] at H
                      exact absurd H (by simp)
                  · rw [if_neg c23] at H
                    have c23b0 : decide (x18_3 < (t241.length : Int)) = false := decide_eq_false c23
                    clear c23
                    obtain rfl := Option.some.inj H
                    obtain ⟨Ao43, co43, eo43⟩ := Kd.R_slice HO_16.out
                    subst eo43
                    obtain ⟨Ao44, co44, eo44⟩ := Kd.R_slice HO_17.out
                    subst eo44
                    go_wp2
                    go_ret
                    exact ⟨by first | rfl | (simp [errW_none, errW_some] <;> rfl) | (simp [*, errW_none, errW_some] <;> rfl), by repeat (first | (with_reducible first | exact HB.out | apply below_alloc | apply pw_below_drewN | apply below_drew1) | exact HB.out)⟩

/-- THE ONE PURE STATEMENT of stepladderlaw14_SuperAll: yours. -/
def stepladderlaw14_SuperAll.Pure : Prop := ∀ (l0 : List Int) (a1 : Int) (a2 : Int) (a3 : Int) (a4 : Int) (a5 : Int), l0.length ≤ maxLen → l0.length * 8 ≤ 140737488351232 → (∀ x ∈ l0, (Lit.int .i64 x).wf = true) → (Lit.int .i64 a1).wf = true → (Lit.int .i64 a2).wf = true → (Lit.int .i64 a3).wf = true → (Lit.int .i64 a4).wf = true → (Lit.int .i64 a5).wf = true → ∃ k, stepladderlaw14_SuperAll.f k l0 a1 a2 a3 a4 a5 = some true
theorem stepladderlaw14_SuperAll.walk (P : stepladderlaw14_SuperAll.Pure) (a0 : Option Addr) (len0 cap0 : Nat) (z0 : List Int) (a1 : Int) (a2 : Int) (a3 : Int) (a4 : Int) (a5 : Int) (w : World) (w0 : (a0 = none ∧ len0 = 0 ∧ cap0 = 0 ∧ z0 = []) ∨ ∃ x, a0 = some x ∧ len0 ≤ cap0 ∧ cap0 ≤ maxLen ∧ z0.length = cap0 ∧ (∀ i, i < z0.length → w.cell? (x.add i) = some (.int .i64 (z0.getD i 0))) ∧ ∀ n ∈ z0, (Lit.int .i64 n).wf = true) (y0 : len0 * 8 ≤ 140737488351232) (w1 : (Lit.int .i64 a1).wf = true) (w2 : (Lit.int .i64 a2).wf = true) (w3 : (Lit.int .i64 a3).wf = true) (w4 : (Lit.int .i64 a4).wf = true) (w5 : (Lit.int .i64 a5).wf = true) :
    Calls Try.prog 11 #[.slice a0 len0 cap0, .int .i64 a1, .int .i64 a2, .int .i64 a3, .int .i64 a4, .int .i64 a5] w fun e w' => e = .returned (.bool true) ∧ Below w.heap.size w w' := by
  obtain ⟨l0, rfl, hr0, hm0, hw0, hc0⟩ := ReadsInt.ofRowC w0
  obtain ⟨k, h⟩ := P l0 a1 a2 a3 a4 a5 hm0 y0 hw0 w1 w2 w3 w4 w5
  refine (stepladderlaw14_SuperAll.calls k _ _ l0 a1 a2 a3 a4 a5 true w (Kd.C_of_reads (d := (0 : Int)) (h1 := fun _ => rfl) hr0) hc0 h).mono ?_
  rintro e w' ⟨rfl, hd⟩
  exact ⟨rfl, hd⟩

end Go.Proofs.Ytfbhgbnpppbiiaa.X
