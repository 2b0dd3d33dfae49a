import Derived.Test.YteekdggainficaaMB1
import Derived.Test.YteekdggainficaaMXstepladderref14May
import Derived.Test.YteekdggainficaaMXstepladderref14Up
-- By this session's own program (wip/tools/xprint.py), over the kit's print. Not trusted: Lean checks it.
namespace Go.Proofs.Yteekdggainficaa.X
open Go.RowKit Go.Proofs.YteekdggainficaaW.PrintWords Go.Proofs.YteekdggainficaaW.PrintLast Go.Proofs.YteekdggainficaaW.PrintMore
attribute [local go_sem] max2_int min2_int max_two min_two max_three min_three max_four min_four   -- for this text's walks alone
set_option linter.unusedVariables false
set_option linter.unusedSimpArgs false

/-! ### stepladderref14_From: function 43 -/
def stepladderref14_From.j0 : Nat → List Int → Int → Int → Int → Bool → Option (Int)
  | 0, _, _, _, _, _ => none
  | k + 1, x0, x1, x2, x3, x28 => if x28 = true then (some (-1)) else (if x3 > 31 then (some 0) else ((stepladderref14_Up.f k x0 0 (wrap64 ((x0.length : Int) - x2)) (wrap64 (x3 + 1))).bind fun t206 => (if (t206.length : Int) < x1 then (some 0) else (if 0 ≤ (wrap64 ((t206.length : Int) - x1)) then (if (wrap64 ((t206.length : Int) - x1)) < (t206.length : Int) then (some (rd t206 (wrap64 ((t206.length : Int) - x1)))) else (none)) else (none)))))
def stepladderref14_From.f (k : Nat) (l0 : List Int) (a1 : Int) (a2 : Int) (a3 : Int) : Option (Int) := (stepladderref14_May.f k l0).bind fun t205 => (if t205 = true then (if a1 < 1 then (stepladderref14_From.j0 k l0 a1 a2 a3 true) else (if a2 < 1 then (stepladderref14_From.j0 k l0 a1 a2 a3 true) else (stepladderref14_From.j0 k l0 a1 a2 a3 (decide ((l0.length : Int) ≤ a2))))) else (stepladderref14_From.j0 k l0 a1 a2 a3 true))
theorem stepladderref14_From.mono_l : ∀ k, (∀ y0 y1 y2 y3 y4, LeO (stepladderref14_From.j0 k y0 y1 y2 y3 y4) (stepladderref14_From.j0 (k + 1) y0 y1 y2 y3 y4))
  | 0 => fun _ _ _ _ _ r h => by simp [stepladderref14_From.j0] at h
  | k + 1 => by
    have ih0 := stepladderref14_From.mono_l k
    · intro y0 y1 y2 y3 y4
      unfold stepladderref14_From.j0
      repeat' first
      | (with_reducible exact ih0 _ _ _ _ _)
      | (with_reducible exact stepladderref14_May.mono _ _)
      | (with_reducible exact stepladderref14_Up.mono _ _ _ _ _)
      | (with_reducible exact LeO.refl _)
      | (with_reducible exact LeO.none _)
      | (with_reducible refine LeO.ite ?_ ?_)
      | (with_reducible refine LeO.bind ?_ (fun _ => ?_))
      | exact ih0 _ _ _ _ _
      | exact stepladderref14_May.mono _ _
      | exact stepladderref14_Up.mono _ _ _ _ _
      | exact LeO.none _
      | refine LeO.ite ?_ ?_
      | refine LeO.bind ?_ (fun _ => ?_)
theorem stepladderref14_From.mono : ∀ a0 a1 a2 a3 k, LeO (stepladderref14_From.f k a0 a1 a2 a3) (stepladderref14_From.f (k + 1) a0 a1 a2 a3) := by
  intro a0 a1 a2 a3 k
  have ih0 := stepladderref14_From.mono_l k
  unfold stepladderref14_From.f
  repeat' first
      | (with_reducible exact ih0 _ _ _ _ _)
      | (with_reducible exact stepladderref14_May.mono _ _)
      | (with_reducible exact stepladderref14_Up.mono _ _ _ _ _)
      | (with_reducible exact LeO.refl _)
      | (with_reducible exact LeO.none _)
      | (with_reducible refine LeO.ite ?_ ?_)
      | (with_reducible refine LeO.bind ?_ (fun _ => ?_))
      | exact ih0 _ _ _ _ _
      | exact stepladderref14_May.mono _ _
      | exact stepladderref14_Up.mono _ _ _ _ _
      | exact LeO.none _
      | refine LeO.ite ?_ ?_
      | refine LeO.bind ?_ (fun _ => ?_)
set_option maxHeartbeats 8000000 in
set_option maxRecDepth 100000 in
theorem stepladderref14_From.calls (k : Nat) (A0 : Option Addr) (c0 : Nat) (l0 : List Int) (a1 : Int) (a2 : Int) (a3 : Int) (r : Int) (w : World) (hr0 : Kd.C (Kd.int .i64) w A0 l0.length l0) (hc0 : l0.length ≤ c0) (h : stepladderref14_From.f k l0 a1 a2 a3 = some r) :
    Calls Try.prog 43 #[.slice A0 l0.length c0, .int .i64 a1, .int .i64 a2, .int .i64 a3] w fun e w' => e = .returned (.int .i64 r) ∧ Below w.heap.size w w' := by
  have HR0 := Aside0.mk hr0
  have HC0 := Aside0.mk hc0
  clear hr0 hc0
  have HB := Aside0.mk (Below.refl w.heap.size w)
  have H : ((stepladderref14_May.f k l0).bind fun t205 => (if t205 = true then (if a1 < 1 then (stepladderref14_From.j0 k l0 a1 a2 a3 true) else (if a2 < 1 then (stepladderref14_From.j0 k l0 a1 a2 a3 true) else (stepladderref14_From.j0 k l0 a1 a2 a3 (decide ((l0.length : Int) ≤ a2))))) else (stepladderref14_From.j0 k l0 a1 a2 a3 true))) = some r := h
  clear h
  replace H := Option.bind_eq_some_iff.mp H
  obtain ⟨t205, A50, H⟩ := H
  replace H : (if t205 = true then (if a1 < 1 then (stepladderref14_From.j0 k l0 a1 a2 a3 true) else (if a2 < 1 then (stepladderref14_From.j0 k l0 a1 a2 a3 true) else (stepladderref14_From.j0 k l0 a1 a2 a3 (decide ((l0.length : Int) ≤ a2))))) else (stepladderref14_From.j0 k l0 a1 a2 a3 true)) = some r := H
  have A5 := Aside0.mk A50
  clear A50
  have HC6 := Aside0.mk H
  clear H
  go_enter Try.func43, Try.ntmps43
  go_upto_region 2 with (first | ((with_reducible refine gate_callee (f := 33) rfl ?_); refine goesL_ (some 12) rfl rfl Try.func33 (by kernel_rfl) rfl #[.slice A0 l0.length c0] rfl (by (try simp only [List.map_toArray, List.map_cons, List.map_nil]); first | done | rfl | (simp only [List.length_drop, List.length_take]; rfl)) ?_; (with_reducible refine (stepladderref14_May.calls k _ _ l0 t205 _ ?side1 ?side2 A5.out).mono ?_); (case side1 => repeat (first | exact HR0.out | (with_reducible refine Kd.C_alloc ?_ _) | (with_reducible refine Kd.C_drewN ?_ _) | (with_reducible refine Kd.C_drew ?_))); (case side2 => exact HC0.out); rintro e w' ⟨rfl, ⟨nd, rfl⟩⟩; refine ⟨_, rfl, ?_⟩))
  (try simp only [Act.put, List.setIfInBounds_toArray, List.set_cons_zero, List.set_cons_succ])
  go_cut [28] (fun v28 wc => ∃ (kq : Nat) (x28_5 : Bool), v28 = .bool x28_5 ∧ Aside0 (stepladderref14_From.j0 kq l0 a1 a2 a3 x28_5 = some r) ∧ Aside0 (kq ≤ k) ∧ Aside0 (Below w.heap.size w wc))
  case first =>
    have H := HC6.out
    clear HC6
    by_cases c7 : t205 = true
    · subst c7
      have H1 : (if a1 < 1 then (stepladderref14_From.j0 k l0 a1 a2 a3 true) else (if a2 < 1 then (stepladderref14_From.j0 k l0 a1 a2 a3 true) else (stepladderref14_From.j0 k l0 a1 a2 a3 (decide ((l0.length : Int) ≤ a2))))) = some r := by rw [if_pos rfl] at H; exact H
      clear H
      have H := H1
      clear H1
      by_cases c8 : a1 < 1
      · rw [if_pos c8] at H
        have c8b0 : decide (a1 < 1) = true := decide_eq_true c8
        clear c8
        (first | rw [c8b0] | (simp only [i64_w, i32_w]; rw [c8b0]) | skip)
        have H' := Aside0.mk H
        clear H
        go_wp2
        go_meet
        case rel => exact ⟨_, (true), (by first | rfl | (simp; done) | (simp [*]; done)), H', ⟨by first | omega | exact Nat.le_refl _⟩, ⟨by repeat (first | (with_reducible first | exact HB.out | apply below_alloc | apply pw_below_drewN | apply below_drew1) | exact HB.out)⟩⟩
      · rw [if_neg c8] at H
        have c8b0 : decide (a1 < 1) = false := decide_eq_false c8
        clear c8
        (first | rw [c8b0] | (simp only [i64_w, i32_w]; rw [c8b0]) | skip)
        by_cases c9 : a2 < 1
        · rw [if_pos c9] at H
          have c9b0 : decide (a2 < 1) = true := decide_eq_true c9
          clear c9
          have H' := Aside0.mk H
          clear H
          go_wp2
          go_meet
          case rel => exact ⟨_, (true), (by first | rfl | (simp; done) | (simp [*]; done)), H', ⟨by first | omega | exact Nat.le_refl _⟩, ⟨by repeat (first | (with_reducible first | exact HB.out | apply below_alloc | apply pw_below_drewN | apply below_drew1) | exact HB.out)⟩⟩
        · rw [if_neg c9] at H
          have c9b0 : decide (a2 < 1) = false := decide_eq_false c9
          clear c9
          have H' := Aside0.mk H
          clear H
          go_wp2
          go_meet
          case rel => exact ⟨_, (decide ((l0.length : Int) ≤ a2)), (by first | rfl | (simp; done) | (simp [*]; done)), H', ⟨by first | omega | exact Nat.le_refl _⟩, ⟨by repeat (first | (with_reducible first | exact HB.out | apply below_alloc | apply pw_below_drewN | apply below_drew1) | exact HB.out)⟩⟩
    · replace c7 := Bool.eq_false_iff.mpr c7
      subst c7
      have H1 : (stepladderref14_From.j0 k l0 a1 a2 a3 true) = some r := by rw [if_neg (show ¬ (false = true) by decide)] at H; exact H
      clear H
      have H := H1
      clear H1
      have H' := Aside0.mk H
      clear H
      go_wp2
      go_meet
      case rel => exact ⟨_, (true), (by first | rfl | (simp; done) | (simp [*]; done)), H', ⟨by first | omega | exact Nat.le_refl _⟩, ⟨by repeat (first | (with_reducible first | exact HB.out | apply below_alloc | apply pw_below_drewN | apply below_drew1) | exact HB.out)⟩⟩
  case rest =>
    clear HC6
    try clear p2
    try clear c3
    try clear c4
    try clear c7
    try clear c8
    try clear c8b0
    try clear c9
    try clear c9b0
    obtain ⟨kq, x28_5, rfl, HA, HJ5, HB⟩ := hcut
    cases kq with
    | zero => exact absurd HA.out (by simp [stepladderref14_From.j0])
    | succ kj5 =>
      have H := HA.out
      clear HA
      simp only [stepladderref14_From.j0] at H
      by_cases c10 : x28_5 = true
      · subst c10
        have H1 : (some (-1)) = some r := by rw [if_pos rfl] at H; exact H
        clear H
        have H := H1
        clear H1
        obtain rfl := Option.some.inj H
        go_wp2
        go_ret
        exact ⟨by first | rfl | (simp [errW_none, errW_some] <;> rfl) | (simp [*, errW_none, errW_some] <;> rfl), by repeat (first | (with_reducible first | exact HB.out | apply below_alloc | apply pw_below_drewN | apply below_drew1) | exact HB.out)⟩
      · replace c10 := Bool.eq_false_iff.mpr c10
        subst c10
        have H1 : (if a3 > 31 then (some 0) else ((stepladderref14_Up.f kj5 l0 0 (wrap64 ((l0.length : Int) - a2)) (wrap64 (a3 + 1))).bind fun t206 => (if (t206.length : Int) < a1 then (some 0) else (if 0 ≤ (wrap64 ((t206.length : Int) - a1)) then (if (wrap64 ((t206.length : Int) - a1)) < (t206.length : Int) then (some (rd t206 (wrap64 ((t206.length : Int) - a1)))) else (none)) else (none))))) = some r := by rw [if_neg (show ¬ (false = true) by decide)] at H; exact H
        clear H
        have H := H1
        clear H1
        by_cases c11 : a3 > 31
        · rw [if_pos c11] at H
          have c11b0 : decide (31 < a3) = true := decide_eq_true c11
          clear c11
          obtain rfl := Option.some.inj H
          go_wp2
          go_ret
          exact ⟨by first | rfl | (simp [errW_none, errW_some] <;> rfl) | (simp [*, errW_none, errW_some] <;> rfl), by repeat (first | (with_reducible first | exact HB.out | apply below_alloc | apply pw_below_drewN | apply below_drew1) | exact HB.out)⟩
        · rw [if_neg c11] at H
          have c11b0 : decide (31 < a3) = false := decide_eq_false c11
          clear c11
          replace H := Option.bind_eq_some_iff.mp H
          obtain ⟨t206, A120, H⟩ := H
          replace H : (if (t206.length : Int) < a1 then (some 0) else (if 0 ≤ (wrap64 ((t206.length : Int) - a1)) then (if (wrap64 ((t206.length : Int) - a1)) < (t206.length : Int) then (some (rd t206 (wrap64 ((t206.length : Int) - a1)))) else (none)) else (none))) = some r := H
          have A12 := Aside0.mk A120
          clear A120
          by_cases c13 : (t206.length : Int) < a1
          · rw [if_pos c13] at H
            have c13b0 : decide ((t206.length : Int) < a1) = true := decide_eq_true c13
            clear c13
            obtain rfl := Option.some.inj H
            go_wp2_with (first | ((with_reducible refine gate_callee (f := 49) rfl ?_); refine goesL_ (some 38) rfl rfl Try.func49 (by kernel_rfl) rfl #[.slice A0 l0.length c0, .int .i64 0, .int .i64 (wrap64 ((l0.length : Int) - a2)), .int .i64 (wrap64 (a3 + 1))] rfl (by (try simp only [List.map_toArray, List.map_cons, List.map_nil]); first | done | rfl | (simp only [List.length_drop, List.length_take]; rfl)) ?_; (with_reducible refine (stepladderref14_Up.calls kj5 _ _ l0 0 (wrap64 ((l0.length : Int) - a2)) (wrap64 (a3 + 1)) t206 _ ?side1 ?side2 A12.out).mono ?_); (case side1 => repeat (first | exact (Kd.C_below HR0.out HB.out) | (with_reducible refine Kd.C_alloc ?_ _) | (with_reducible refine Kd.C_drewN ?_ _) | (with_reducible refine Kd.C_drew ?_))); (case side2 => exact HC0.out); rintro e w14 ⟨v207, rfl, ho0, hb⟩; refine ⟨_, rfl, ?_⟩; have n0_ := Aside0.mk (Kd.R_lower ho0 (below_size (by repeat (first | (with_reducible first | exact HB.out | apply below_alloc | apply pw_below_drewN | apply below_drew1) | exact HB.out)))); have n1_ := Aside0.mk (below_step (by repeat (first | (with_reducible first | exact HB.out | apply below_alloc | apply pw_below_drewN | apply below_drew1) | exact HB.out)) hb); clear HB; have HO208 := n0_; have HB := n1_; clear n0_ n1_; (try clear hb); (try clear hb2); (try clear hk); (try clear hi); (try clear ho0); obtain ⟨Ao15, co15, eo15⟩ := Kd.R_slice HO208.out; subst eo15))
            go_ret
            exact ⟨by first | rfl | (simp [errW_none, errW_some] <;> rfl) | (simp [*, errW_none, errW_some] <;> rfl), by repeat (first | (with_reducible first | exact HB.out | apply below_alloc | apply pw_below_drewN | apply below_drew1) | exact HB.out)⟩
          · rw [if_neg c13] at H
            have c13b0 : decide ((t206.length : Int) < a1) = false := decide_eq_false c13
            clear c13
            obtain ⟨ji16, hji16⟩ : ∃ j_ : Int, (wrap64 ((t206.length : Int) - a1)) = j_ := ⟨_, rfl⟩
            replace H : (if 0 ≤ (ji16) then (if (ji16) < (t206.length : Int) then (some (rd t206 (ji16))) else (none)) else (none)) = some r := by first | (rw [hji16] at H; exact H) | (simp only [hji16] at H ⊢; exact H)
            (try rw [hji16] at A12)
            have hji16w : (IntKind.i64.wrap ((t206.length : Int) - a1)) = ji16 := (i64_w _).trans hji16
            by_cases c17 : 0 ≤ (ji16)
            · rw [if_pos c17] at H
              have c17b0 : decide (0 ≤ (ji16)) = true := decide_eq_true c17
              clear c17
              by_cases c18 : (ji16) < (t206.length : Int)
              · rw [if_pos c18] at H
                have c18b0 : decide ((ji16) < (t206.length : Int)) = true := decide_eq_true c18
                clear c18
                obtain rfl := Option.some.inj H
                go_wp2_with (first | ((with_reducible refine gate_callee (f := 49) rfl ?_); refine goesL_ (some 38) rfl rfl Try.func49 (by kernel_rfl) rfl #[.slice A0 l0.length c0, .int .i64 0, .int .i64 (wrap64 ((l0.length : Int) - a2)), .int .i64 (wrap64 (a3 + 1))] rfl (by (try simp only [List.map_toArray, List.map_cons, List.map_nil]); first | done | rfl | (simp only [List.length_drop, List.length_take]; rfl)) ?_; (with_reducible refine (stepladderref14_Up.calls kj5 _ _ l0 0 (wrap64 ((l0.length : Int) - a2)) (wrap64 (a3 + 1)) t206 _ ?side1 ?side2 A12.out).mono ?_); (case side1 => repeat (first | exact (Kd.C_below HR0.out HB.out) | (with_reducible refine Kd.C_alloc ?_ _) | (with_reducible refine Kd.C_drewN ?_ _) | (with_reducible refine Kd.C_drew ?_))); (case side2 => exact HC0.out); rintro e w19 ⟨v207, rfl, ho0, hb⟩; refine ⟨_, rfl, ?_⟩; have n0_ := Aside0.mk (Kd.R_lower ho0 (below_size (by repeat (first | (with_reducible first | exact HB.out | apply below_alloc | apply pw_below_drewN | apply below_drew1) | exact HB.out)))); have n1_ := Aside0.mk (below_step (by repeat (first | (with_reducible first | exact HB.out | apply below_alloc | apply pw_below_drewN | apply below_drew1) | exact HB.out)) hb); clear HB; have HO208 := n0_; have HB := n1_; clear n0_ n1_; (try clear hb); (try clear hb2); (try clear hk); (try clear hi); (try clear ho0); obtain ⟨Ao20, co20, eo20⟩ := Kd.R_slice HO208.out; subst eo20; have p209 : 0 ≤ ((ji16) : Int) := of_decide_eq_true (by first | (with_reducible assumption) | assumption); have q209 : (ji16) < (t206.length : Int) := of_decide_eq_true (by first | (with_reducible assumption) | assumption); obtain ⟨ad209, e209, hx209_0⟩ := Kd.at_int (Kd.R_reads' HO208.out).2.2 (ji16) p209 q209; cases e209; replace p209 := eq_true p209; replace q209 := eq_true q209))
                go_ret
                exact ⟨by first | rfl | (simp [errW_none, errW_some] <;> rfl) | (simp only [← hji16]; first | rfl | (simp [errW_none, errW_some] <;> rfl)) | (simp [*, errW_none, errW_some] <;> rfl), by repeat (first | (with_reducible first | exact HB.out | apply below_alloc | apply pw_below_drewN | apply below_drew1) | exact HB.out)⟩
              · rw [if_neg c18] at H
                exact absurd H (by simp)
            · rw [if_neg c17] at H
              exact absurd H (by simp)

end Go.Proofs.Yteekdggainficaa.X
