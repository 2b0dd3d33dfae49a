-- By this session's own program (wip/tools/xprint.py), over the kit's print. Not trusted: Lean checks it.
import Derived.Test.YtgjkjndfnjabeaaX0
import Derived.Test.YtgjkjndfnjabeaaXinfixFollow
import Derived.Test.YtgjkjndfnjabeaaXsuperMay
import Derived.Test.YtgjkjndfnjabeaaXinfixLinked
import Derived.Test.YtgjkjndfnjabeaaXstepladderlaw16awake
namespace Go.Proofs.Ytgjkjndfnjabeaa.X
open Go.RowKit Go.Proofs.YtgjkjndfnjabeaaW.PrintWords Go.Proofs.YtgjkjndfnjabeaaW.PrintLast Go.Proofs.YtgjkjndfnjabeaaW.PrintMore
attribute [local go_sem] max2_int min2_int max_two min_two max_three min_three max_four min_four   -- for this text's walks alone
set_option linter.unusedVariables false
set_option linter.unusedSimpArgs false

/-! ### stepladderlaw16_InfixWays: function 5 -/
mutual
def stepladderlaw16_InfixWays.j0 : Nat → List Int → Int → Int → Int → Bool → Bool → Option (Bool)
  | 0, _, _, _, _, _, _ => none
  | k + 1, x0, x1, x2, x3, x9, x19 => if x19 = true then (some x9) else ((infix_Follow.f x0 x1 x2).bind fun bt249 => ((super_May.f x0).bind fun t253 => (if t253 = true then (if x2 ≥ 0 then (if x2 ≤ x1 then (stepladderlaw16_InfixWays.j1 k x0 x1 x2 x3 bt249.1 bt249.2 (bt249.2 != (decide (x1 < (x0.length : Int))))) else (stepladderlaw16_InfixWays.j1 k x0 x1 x2 x3 bt249.1 bt249.2 (bt249.2 != false))) else (stepladderlaw16_InfixWays.j1 k x0 x1 x2 x3 bt249.1 bt249.2 (bt249.2 != false))) else (stepladderlaw16_InfixWays.j1 k x0 x1 x2 x3 bt249.1 bt249.2 (bt249.2 != false)))))
def stepladderlaw16_InfixWays.j1 : Nat → List Int → Int → Int → Int → List Int → Bool → Bool → Option (Bool)
  | 0, _, _, _, _, _, _, _ => none
  | k + 1, x0, x1, x2, x3, x10, x11, x46 => if x46 = true then (some false) else (if x11 = true then (if (x10.length : Int) = 0 then (stepladderlaw16_InfixWays.j2 k x0 x3 x10 true) else (if 0 < (x10.length : Int) then (if (rd x10 0) = x2 then (if 0 ≤ (wrap64 ((x10.length : Int) - 1)) then (if (wrap64 ((x10.length : Int) - 1)) < (x10.length : Int) then (if (rd x10 (wrap64 ((x10.length : Int) - 1))) = x1 then ((infix_Linked.f k x0 x10).bind fun t256 => (stepladderlaw16_InfixWays.j2 k x0 x3 x10 (!t256))) else (stepladderlaw16_InfixWays.j2 k x0 x3 x10 true)) else (none)) else (none)) else (stepladderlaw16_InfixWays.j2 k x0 x3 x10 true)) else (none))) else (some ((x10.length : Int) == 0)))
def stepladderlaw16_InfixWays.j2 : Nat → List Int → Int → List Int → Bool → Option (Bool)
  | 0, _, _, _, _ => none
  | k + 1, x0, x3, x10, x77 => if x77 = true then (some false) else (if x3 < 0 then (stepladderlaw16_InfixWays.j3 k x0 x3 x10 true) else (stepladderlaw16_InfixWays.j3 k x0 x3 x10 (decide (x3 ≥ (x10.length : Int)))))
def stepladderlaw16_InfixWays.j3 : Nat → List Int → Int → List Int → Bool → Option (Bool)
  | 0, _, _, _, _ => none
  | k + 1, x0, x3, x10, x85 => if x85 = true then (some true) else (if 0 ≤ x3 then (if x3 ≤ (x10.length : Int) then ((infix_Linked.f k x0 (x10.drop (x3 : Int).toNat)).bind fun t261 => (if t261 = true then ((infix_Linked.f k x0 (x10.take (x3 : Int).toNat)).bind fun t266 => (some t266)) else (some false))) else (none)) else (none))
end
def stepladderlaw16_InfixWays.f (k : Nat) (l0 : List Int) (a1 : Int) (a2 : Int) (a3 : Int) : Option (Bool) := (stepladderlaw16_awake.f k).bind fun t248 => (if t248 = true then (stepladderlaw16_InfixWays.j0 k l0 a1 a2 a3 t248 (decide ((l0.length : Int) > 210))) else (stepladderlaw16_InfixWays.j0 k l0 a1 a2 a3 t248 true))
theorem stepladderlaw16_InfixWays.mono_l : ∀ k, (∀ y0 y1 y2 y3 y4 y5, LeO (stepladderlaw16_InfixWays.j0 k y0 y1 y2 y3 y4 y5) (stepladderlaw16_InfixWays.j0 (k + 1) y0 y1 y2 y3 y4 y5)) ∧ (∀ y0 y1 y2 y3 y4 y5 y6, LeO (stepladderlaw16_InfixWays.j1 k y0 y1 y2 y3 y4 y5 y6) (stepladderlaw16_InfixWays.j1 (k + 1) y0 y1 y2 y3 y4 y5 y6)) ∧ (∀ y0 y1 y2 y3, LeO (stepladderlaw16_InfixWays.j2 k y0 y1 y2 y3) (stepladderlaw16_InfixWays.j2 (k + 1) y0 y1 y2 y3)) ∧ (∀ y0 y1 y2 y3, LeO (stepladderlaw16_InfixWays.j3 k y0 y1 y2 y3) (stepladderlaw16_InfixWays.j3 (k + 1) y0 y1 y2 y3))
  | 0 => ⟨fun _ _ _ _ _ _ r h => by simp [stepladderlaw16_InfixWays.j0] at h, fun _ _ _ _ _ _ _ r h => by simp [stepladderlaw16_InfixWays.j1] at h, fun _ _ _ _ r h => by simp [stepladderlaw16_InfixWays.j2] at h, fun _ _ _ _ r h => by simp [stepladderlaw16_InfixWays.j3] at h⟩
  | k + 1 => by
    obtain ⟨ih0, ih1, ih2, ih3⟩ := stepladderlaw16_InfixWays.mono_l k
    refine ⟨?_, ?_, ?_, ?_⟩
    · intro y0 y1 y2 y3 y4 y5
      unfold stepladderlaw16_InfixWays.j0
      repeat' first
      | (with_reducible exact ih0 _ _ _ _ _ _)
      | (with_reducible exact ih1 _ _ _ _ _ _ _)
      | (with_reducible exact ih2 _ _ _ _)
      | (with_reducible exact ih3 _ _ _ _)
      | (with_reducible exact infix_Linked.mono _ _ _)
      | (with_reducible exact stepladderlaw16_awake.mono _)
      | (with_reducible exact LeO.refl _)
      | (with_reducible exact LeO.none _)
      | (with_reducible refine LeO.ite ?_ ?_)
      | (with_reducible refine LeO.bind ?_ (fun _ => ?_))
      | exact ih0 _ _ _ _ _ _
      | exact ih1 _ _ _ _ _ _ _
      | exact ih2 _ _ _ _
      | exact ih3 _ _ _ _
      | exact infix_Linked.mono _ _ _
      | exact stepladderlaw16_awake.mono _
      | exact LeO.none _
      | refine LeO.ite ?_ ?_
      | refine LeO.bind ?_ (fun _ => ?_)
    · intro y0 y1 y2 y3 y4 y5 y6
      unfold stepladderlaw16_InfixWays.j1
      repeat' first
      | (with_reducible exact ih0 _ _ _ _ _ _)
      | (with_reducible exact ih1 _ _ _ _ _ _ _)
      | (with_reducible exact ih2 _ _ _ _)
      | (with_reducible exact ih3 _ _ _ _)
      | (with_reducible exact infix_Linked.mono _ _ _)
      | (with_reducible exact stepladderlaw16_awake.mono _)
      | (with_reducible exact LeO.refl _)
      | (with_reducible exact LeO.none _)
      | (with_reducible refine LeO.ite ?_ ?_)
      | (with_reducible refine LeO.bind ?_ (fun _ => ?_))
      | exact ih0 _ _ _ _ _ _
      | exact ih1 _ _ _ _ _ _ _
      | exact ih2 _ _ _ _
      | exact ih3 _ _ _ _
      | exact infix_Linked.mono _ _ _
      | exact stepladderlaw16_awake.mono _
      | exact LeO.none _
      | refine LeO.ite ?_ ?_
      | refine LeO.bind ?_ (fun _ => ?_)
    · intro y0 y1 y2 y3
      unfold stepladderlaw16_InfixWays.j2
      repeat' first
      | (with_reducible exact ih0 _ _ _ _ _ _)
      | (with_reducible exact ih1 _ _ _ _ _ _ _)
      | (with_reducible exact ih2 _ _ _ _)
      | (with_reducible exact ih3 _ _ _ _)
      | (with_reducible exact infix_Linked.mono _ _ _)
      | (with_reducible exact stepladderlaw16_awake.mono _)
      | (with_reducible exact LeO.refl _)
      | (with_reducible exact LeO.none _)
      | (with_reducible refine LeO.ite ?_ ?_)
      | (with_reducible refine LeO.bind ?_ (fun _ => ?_))
      | exact ih0 _ _ _ _ _ _
      | exact ih1 _ _ _ _ _ _ _
      | exact ih2 _ _ _ _
      | exact ih3 _ _ _ _
      | exact infix_Linked.mono _ _ _
      | exact stepladderlaw16_awake.mono _
      | exact LeO.none _
      | refine LeO.ite ?_ ?_
      | refine LeO.bind ?_ (fun _ => ?_)
    · intro y0 y1 y2 y3
      unfold stepladderlaw16_InfixWays.j3
      repeat' first
      | (with_reducible exact ih0 _ _ _ _ _ _)
      | (with_reducible exact ih1 _ _ _ _ _ _ _)
      | (with_reducible exact ih2 _ _ _ _)
      | (with_reducible exact ih3 _ _ _ _)
      | (with_reducible exact infix_Linked.mono _ _ _)
      | (with_reducible exact stepladderlaw16_awake.mono _)
      | (with_reducible exact LeO.refl _)
      | (with_reducible exact LeO.none _)
      | (with_reducible refine LeO.ite ?_ ?_)
      | (with_reducible refine LeO.bind ?_ (fun _ => ?_))
      | exact ih0 _ _ _ _ _ _
      | exact ih1 _ _ _ _ _ _ _
      | exact ih2 _ _ _ _
      | exact ih3 _ _ _ _
      | exact infix_Linked.mono _ _ _
      | exact stepladderlaw16_awake.mono _
      | exact LeO.none _
      | refine LeO.ite ?_ ?_
      | refine LeO.bind ?_ (fun _ => ?_)
theorem stepladderlaw16_InfixWays.mono : ∀ a0 a1 a2 a3 k, LeO (stepladderlaw16_InfixWays.f k a0 a1 a2 a3) (stepladderlaw16_InfixWays.f (k + 1) a0 a1 a2 a3) := by
  intro a0 a1 a2 a3 k
  obtain ⟨ih0, ih1, ih2, ih3⟩ := stepladderlaw16_InfixWays.mono_l k
  unfold stepladderlaw16_InfixWays.f
  repeat' first
      | (with_reducible exact ih0 _ _ _ _ _ _)
      | (with_reducible exact ih1 _ _ _ _ _ _ _)
      | (with_reducible exact ih2 _ _ _ _)
      | (with_reducible exact ih3 _ _ _ _)
      | (with_reducible exact infix_Linked.mono _ _ _)
      | (with_reducible exact stepladderlaw16_awake.mono _)
      | (with_reducible exact LeO.refl _)
      | (with_reducible exact LeO.none _)
      | (with_reducible refine LeO.ite ?_ ?_)
      | (with_reducible refine LeO.bind ?_ (fun _ => ?_))
      | exact ih0 _ _ _ _ _ _
      | exact ih1 _ _ _ _ _ _ _
      | exact ih2 _ _ _ _
      | exact ih3 _ _ _ _
      | exact infix_Linked.mono _ _ _
      | exact stepladderlaw16_awake.mono _
      | exact LeO.none _
      | refine LeO.ite ?_ ?_
      | refine LeO.bind ?_ (fun _ => ?_)
set_option maxHeartbeats 8000000 in
set_option maxRecDepth 100000 in
theorem stepladderlaw16_InfixWays.calls (k : Nat) (A0 : Option Addr) (c0 : Nat) (l0 : List Int) (a1 : Int) (a2 : Int) (a3 : Int) (r : Bool) (w : World) (hr0 : Kd.C (Kd.int .i64) w A0 l0.length l0) (hc0 : l0.length ≤ c0) (h : stepladderlaw16_InfixWays.f k l0 a1 a2 a3 = some r) :
    Calls Try.prog 5 #[.slice A0 l0.length c0, .int .i64 a1, .int .i64 a2, .int .i64 a3] w fun e w' => e = .returned (.bool r) ∧ Below w.heap.size w w' := by
  have HR0 := Aside0.mk hr0
  have HC0 := Aside0.mk hc0
  clear hr0 hc0
  have HB := Aside0.mk (Below.refl w.heap.size w)
  have H : ((stepladderlaw16_awake.f k).bind fun t248 => (if t248 = true then (stepladderlaw16_InfixWays.j0 k l0 a1 a2 a3 t248 (decide ((l0.length : Int) > 210))) else (stepladderlaw16_InfixWays.j0 k l0 a1 a2 a3 t248 true))) = some r := h
  clear h
  replace H := Option.bind_eq_some_iff.mp H
  obtain ⟨t248, A50, H⟩ := H
  replace H : (if t248 = true then (stepladderlaw16_InfixWays.j0 k l0 a1 a2 a3 t248 (decide ((l0.length : Int) > 210))) else (stepladderlaw16_InfixWays.j0 k l0 a1 a2 a3 t248 true)) = some r := H
  have A5 := Aside0.mk A50
  clear A50
  have HC6 := Aside0.mk H
  clear H
  go_enter Try.func5, Try.ntmps5
  go_upto_region 2 with (first | ((with_reducible refine gate_callee (f := 15) rfl ?_); refine goesL_ (some 12) rfl rfl Try.func15 (by kernel_rfl) rfl #[] rfl (by (try simp only [List.map_toArray, List.map_cons, List.map_nil]); first | done | rfl | (simp only [List.length_drop, List.length_take]; rfl)) ?_; (with_reducible refine (stepladderlaw16_awake.calls k  t248 _ A5.out).mono ?_); rintro e w7 ⟨rfl, hb⟩; refine ⟨_, rfl, ?_⟩; have n0_ := Aside0.mk (below_step (by repeat (first | (with_reducible first | exact HB.out | apply below_alloc | apply pw_below_drewN | apply below_drew1) | exact HB.out)) hb); clear HB; have HB := n0_; clear n0_; (try clear hb); (try clear hb2); (try clear hk); (try clear hi)))
  (try simp only [Act.put, List.setIfInBounds_toArray, List.set_cons_zero, List.set_cons_succ])
  go_cut [19] (fun v19 wc => ∃ (kq : Nat) (x19_5 : Bool), v19 = .bool x19_5 ∧ Aside0 (stepladderlaw16_InfixWays.j0 kq l0 a1 a2 a3 t248 x19_5 = some r) ∧ Aside0 (kq ≤ k) ∧ Aside0 (Below w.heap.size w wc))
  case first =>
    have H := HC6.out
    clear HC6
    by_cases c8 : t248 = true
    · subst c8
      have H1 : (stepladderlaw16_InfixWays.j0 k l0 a1 a2 a3 true (decide ((l0.length : Int) > 210))) = some r := by rw [if_pos rfl] at H; exact H
      clear H
      have H := H1
      clear H1
      have H' := Aside0.mk H
      clear H
      go_wp2
      go_meet
      case rel => exact ⟨_, (decide ((l0.length : Int) > 210)), (by first | rfl | (simp; done) | (simp [*]; done)), H', ⟨by first | omega | exact Nat.le_refl _⟩, ⟨by repeat (first | (with_reducible first | exact HB.out | apply below_alloc | apply pw_below_drewN | apply below_drew1) | exact HB.out)⟩⟩
    · replace c8 := Bool.eq_false_iff.mpr c8
      subst c8
      have H1 : (stepladderlaw16_InfixWays.j0 k l0 a1 a2 a3 false true) = some r := by rw [if_neg (show ¬ (false = true) by decide)] at H; exact H
      clear H
      have H := H1
      clear H1
      have H' := Aside0.mk H
      clear H
      go_wp2
      go_meet
      case rel => exact ⟨_, (true), (by first | rfl | (simp; done) | (simp [*]; done)), H', ⟨by first | omega | exact Nat.le_refl _⟩, ⟨by repeat (first | (with_reducible first | exact HB.out | apply below_alloc | apply pw_below_drewN | apply below_drew1) | exact HB.out)⟩⟩
  case rest =>
    clear HC6
    try clear c1
    try clear p2
    try clear c5
    try clear c8
    obtain ⟨kq, x19_5, rfl, HA, HJ5, HB⟩ := hcut
    cases kq with
    | zero => exact absurd HA.out (by simp [stepladderlaw16_InfixWays.j0])
    | succ kj5 =>
      have H := HA.out
      clear HA
      simp only [stepladderlaw16_InfixWays.j0] at H
      by_cases c9 : x19_5 = true
      · subst c9
        have H1 : (some t248) = some r := by rw [if_pos rfl] at H; exact H
        clear H
        have H := H1
        clear H1
        obtain rfl := Option.some.inj H
        go_wp2
        go_ret
        exact ⟨by first | rfl | (simp [errW_none, errW_some] <;> rfl) | (simp [*, errW_none, errW_some] <;> rfl), by repeat (first | (with_reducible first | exact HB.out | apply below_alloc | apply pw_below_drewN | apply below_drew1) | exact HB.out)⟩
      · replace c9 := Bool.eq_false_iff.mpr c9
        subst c9
        have H1 : ((infix_Follow.f l0 a1 a2).bind fun bt249 => ((super_May.f l0).bind fun t253 => (if t253 = true then (if a2 ≥ 0 then (if a2 ≤ a1 then (stepladderlaw16_InfixWays.j1 kj5 l0 a1 a2 a3 bt249.1 bt249.2 (bt249.2 != (decide (a1 < (l0.length : Int))))) else (stepladderlaw16_InfixWays.j1 kj5 l0 a1 a2 a3 bt249.1 bt249.2 (bt249.2 != false))) else (stepladderlaw16_InfixWays.j1 kj5 l0 a1 a2 a3 bt249.1 bt249.2 (bt249.2 != false))) else (stepladderlaw16_InfixWays.j1 kj5 l0 a1 a2 a3 bt249.1 bt249.2 (bt249.2 != false))))) = some r := by rw [if_neg (show ¬ (false = true) by decide)] at H; exact H
        clear H
        have H := H1
        clear H1
        replace H := Option.bind_eq_some_iff.mp H
        obtain ⟨⟨t249, t250⟩, A100, H⟩ := H
        replace H : ((super_May.f l0).bind fun t253 => (if t253 = true then (if a2 ≥ 0 then (if a2 ≤ a1 then (stepladderlaw16_InfixWays.j1 kj5 l0 a1 a2 a3 t249 t250 (t250 != (decide (a1 < (l0.length : Int))))) else (stepladderlaw16_InfixWays.j1 kj5 l0 a1 a2 a3 t249 t250 (t250 != false))) else (stepladderlaw16_InfixWays.j1 kj5 l0 a1 a2 a3 t249 t250 (t250 != false))) else (stepladderlaw16_InfixWays.j1 kj5 l0 a1 a2 a3 t249 t250 (t250 != false)))) = some r := H
        have A10 := Aside0.mk A100
        clear A100
        have HC11 := Aside0.mk H
        clear H
        go_upto_region 5 with (first | ((with_reducible refine gate_callee (f := 16) rfl ?_); refine goesL_ (some 25) rfl rfl Try.func16 (by kernel_rfl) rfl #[.slice A0 l0.length c0, .int .i64 a1, .int .i64 a2] rfl (by (try simp only [List.map_toArray, List.map_cons, List.map_nil]); first | done | rfl | (simp only [List.length_drop, List.length_take]; rfl)) ?_; (with_reducible refine (infix_Follow.calls _ _ l0 a1 a2 t249 t250 _ ?side1 ?side2 A10.out).mono ?_); (case side1 => repeat (first | exact (Kd.C_below HR0.out HB.out) | (with_reducible refine Kd.C_alloc ?_ _) | (with_reducible refine Kd.C_drewN ?_ _) | (with_reducible refine Kd.C_drew ?_))); (case side2 => exact HC0.out); rintro e w12 ⟨v251, rfl, ho0, hb⟩; refine ⟨_, rfl, ?_⟩; have n0_ := Aside0.mk (Kd.R_lower ho0 (below_size (by repeat (first | (with_reducible first | exact HB.out | apply below_alloc | apply pw_below_drewN | apply below_drew1) | exact HB.out)))); have n1_ := Aside0.mk (below_step (by repeat (first | (with_reducible first | exact HB.out | apply below_alloc | apply pw_below_drewN | apply below_drew1) | exact HB.out)) hb); clear HB; have HO252 := n0_; have HB := n1_; clear n0_ n1_; (try clear hb); (try clear hb2); (try clear hk); (try clear hi); (try clear ho0)))
        (try simp only [Act.put, List.setIfInBounds_toArray, List.set_cons_zero, List.set_cons_succ])
        go_cut [46] (fun v46 wc => ∃ (kq : Nat) (x46_10 : Bool), v46 = .bool x46_10 ∧ Aside0 (stepladderlaw16_InfixWays.j1 kq l0 a1 a2 a3 t249 t250 x46_10 = some r) ∧ Aside0 (kq ≤ kj5) ∧ Aside0 (Kd.R (Kd.int .i64) 3 wc w.heap.size (fun _ => True) v251 t249) ∧ Aside0 (Below w.heap.size w wc))
        case first =>
          have H := HC11.out
          clear HC11
          replace H := Option.bind_eq_some_iff.mp H
          obtain ⟨t253, A130, H⟩ := H
          replace H : (if t253 = true then (if a2 ≥ 0 then (if a2 ≤ a1 then (stepladderlaw16_InfixWays.j1 kj5 l0 a1 a2 a3 t249 t250 (t250 != (decide (a1 < (l0.length : Int))))) else (stepladderlaw16_InfixWays.j1 kj5 l0 a1 a2 a3 t249 t250 (t250 != false))) else (stepladderlaw16_InfixWays.j1 kj5 l0 a1 a2 a3 t249 t250 (t250 != false))) else (stepladderlaw16_InfixWays.j1 kj5 l0 a1 a2 a3 t249 t250 (t250 != false))) = some r := H
          have A13 := Aside0.mk A130
          clear A130
          by_cases c14 : t253 = true
          · subst c14
            have H1 : (if a2 ≥ 0 then (if a2 ≤ a1 then (stepladderlaw16_InfixWays.j1 kj5 l0 a1 a2 a3 t249 t250 (t250 != (decide (a1 < (l0.length : Int))))) else (stepladderlaw16_InfixWays.j1 kj5 l0 a1 a2 a3 t249 t250 (t250 != false))) else (stepladderlaw16_InfixWays.j1 kj5 l0 a1 a2 a3 t249 t250 (t250 != false))) = some r := by rw [if_pos rfl] at H; exact H
            clear H
            have H := H1
            clear H1
            by_cases c15 : a2 ≥ 0
            · rw [if_pos c15] at H
              have c15b0 : decide (0 ≤ a2) = true := decide_eq_true c15
              clear c15
              (first | rw [c15b0] | (simp only [i64_w, i32_w]; rw [c15b0]) | skip)
              by_cases c16 : a2 ≤ a1
              · rw [if_pos c16] at H
                have c16b0 : decide (a2 ≤ a1) = true := decide_eq_true c16
                clear c16
                have H' := Aside0.mk H
                clear H
                go_wp2_with (first | ((with_reducible refine gate_callee (f := 25) rfl ?_); refine goesL_ (some 30) rfl rfl Try.func25 (by kernel_rfl) rfl #[.slice A0 l0.length c0] rfl (by (try simp only [List.map_toArray, List.map_cons, List.map_nil]); first | done | rfl | (simp only [List.length_drop, List.length_take]; rfl)) ?_; (with_reducible refine (super_May.calls _ _ l0 true _ ?side1 ?side2 A13.out).mono ?_); (case side1 => repeat (first | exact (Kd.C_below HR0.out HB.out) | (with_reducible refine Kd.C_alloc ?_ _) | (with_reducible refine Kd.C_drewN ?_ _) | (with_reducible refine Kd.C_drew ?_))); (case side2 => exact HC0.out); rintro e w' ⟨rfl, ⟨nd, rfl⟩⟩; refine ⟨_, rfl, ?_⟩))
                go_meet
                case rel => exact ⟨_, ((t250 != (decide (a1 < (l0.length : Int))))), (by first | rfl | (simp; done) | (simp [*]; done)), H', ⟨by have := HJ5.out; first | omega | exact Nat.le_refl _⟩, ⟨by (with_reducible repeat (first | apply Kd.R_alloc | apply Kd.R_drewN | apply Kd.R_drew)); exact HO252.out⟩, ⟨by repeat (first | (with_reducible first | exact HB.out | apply below_alloc | apply pw_below_drewN | apply below_drew1) | exact HB.out)⟩⟩
              · rw [if_neg c16] at H
                have c16b0 : decide (a2 ≤ a1) = false := decide_eq_false c16
                clear c16
                have H' := Aside0.mk H
                clear H
                go_wp2_with (first | ((with_reducible refine gate_callee (f := 25) rfl ?_); refine goesL_ (some 30) rfl rfl Try.func25 (by kernel_rfl) rfl #[.slice A0 l0.length c0] rfl (by (try simp only [List.map_toArray, List.map_cons, List.map_nil]); first | done | rfl | (simp only [List.length_drop, List.length_take]; rfl)) ?_; (with_reducible refine (super_May.calls _ _ l0 true _ ?side1 ?side2 A13.out).mono ?_); (case side1 => repeat (first | exact (Kd.C_below HR0.out HB.out) | (with_reducible refine Kd.C_alloc ?_ _) | (with_reducible refine Kd.C_drewN ?_ _) | (with_reducible refine Kd.C_drew ?_))); (case side2 => exact HC0.out); rintro e w' ⟨rfl, ⟨nd, rfl⟩⟩; refine ⟨_, rfl, ?_⟩))
                go_meet
                case rel => exact ⟨_, ((t250 != false)), (by first | rfl | (simp; done) | (simp [*]; done)), H', ⟨by have := HJ5.out; first | omega | exact Nat.le_refl _⟩, ⟨by (with_reducible repeat (first | apply Kd.R_alloc | apply Kd.R_drewN | apply Kd.R_drew)); exact HO252.out⟩, ⟨by repeat (first | (with_reducible first | exact HB.out | apply below_alloc | apply pw_below_drewN | apply below_drew1) | exact HB.out)⟩⟩
            · rw [if_neg c15] at H
              have c15b0 : decide (0 ≤ a2) = false := decide_eq_false c15
              clear c15
              (first | rw [c15b0] | (simp only [i64_w, i32_w]; rw [c15b0]) | skip)
              have H' := Aside0.mk H
              clear H
              go_wp2_with (first | ((with_reducible refine gate_callee (f := 25) rfl ?_); refine goesL_ (some 30) rfl rfl Try.func25 (by kernel_rfl) rfl #[.slice A0 l0.length c0] rfl (by (try simp only [List.map_toArray, List.map_cons, List.map_nil]); first | done | rfl | (simp only [List.length_drop, List.length_take]; rfl)) ?_; (with_reducible refine (super_May.calls _ _ l0 true _ ?side1 ?side2 A13.out).mono ?_); (case side1 => repeat (first | exact (Kd.C_below HR0.out HB.out) | (with_reducible refine Kd.C_alloc ?_ _) | (with_reducible refine Kd.C_drewN ?_ _) | (with_reducible refine Kd.C_drew ?_))); (case side2 => exact HC0.out); rintro e w' ⟨rfl, ⟨nd, rfl⟩⟩; refine ⟨_, rfl, ?_⟩))
              go_meet
              case rel => exact ⟨_, ((t250 != false)), (by first | rfl | (simp; done) | (simp [*]; done)), H', ⟨by have := HJ5.out; first | omega | exact Nat.le_refl _⟩, ⟨by (with_reducible repeat (first | apply Kd.R_alloc | apply Kd.R_drewN | apply Kd.R_drew)); exact HO252.out⟩, ⟨by repeat (first | (with_reducible first | exact HB.out | apply below_alloc | apply pw_below_drewN | apply below_drew1) | exact HB.out)⟩⟩
          · replace c14 := Bool.eq_false_iff.mpr c14
            subst c14
            have H1 : (stepladderlaw16_InfixWays.j1 kj5 l0 a1 a2 a3 t249 t250 (t250 != false)) = some r := by rw [if_neg (show ¬ (false = true) by decide)] at H; exact H
            clear H
            have H := H1
            clear H1
            have H' := Aside0.mk H
            clear H
            go_wp2_with (first | ((with_reducible refine gate_callee (f := 25) rfl ?_); refine goesL_ (some 30) rfl rfl Try.func25 (by kernel_rfl) rfl #[.slice A0 l0.length c0] rfl (by (try simp only [List.map_toArray, List.map_cons, List.map_nil]); first | done | rfl | (simp only [List.length_drop, List.length_take]; rfl)) ?_; (with_reducible refine (super_May.calls _ _ l0 false _ ?side1 ?side2 A13.out).mono ?_); (case side1 => repeat (first | exact (Kd.C_below HR0.out HB.out) | (with_reducible refine Kd.C_alloc ?_ _) | (with_reducible refine Kd.C_drewN ?_ _) | (with_reducible refine Kd.C_drew ?_))); (case side2 => exact HC0.out); rintro e w' ⟨rfl, ⟨nd, rfl⟩⟩; refine ⟨_, rfl, ?_⟩))
            go_meet
            case rel => exact ⟨_, ((t250 != false)), (by first | rfl | (simp; done) | (simp [*]; done)), H', ⟨by have := HJ5.out; first | omega | exact Nat.le_refl _⟩, ⟨by (with_reducible repeat (first | apply Kd.R_alloc | apply Kd.R_drewN | apply Kd.R_drew)); exact HO252.out⟩, ⟨by repeat (first | (with_reducible first | exact HB.out | apply below_alloc | apply pw_below_drewN | apply below_drew1) | exact HB.out)⟩⟩
        case rest =>
          clear HC11
          try clear c1
          try clear c2
          try clear p2
          try clear c5
          try clear c8
          try clear c9
          try clear c14
          try clear c15
          try clear c15b0
          try clear c16
          try clear c16b0
          try clear p2
          obtain ⟨kq, x46_10, rfl, HA, HJ10, HO_10, HB⟩ := hcut
          cases kq with
          | zero => exact absurd HA.out (by simp [stepladderlaw16_InfixWays.j1])
          | succ kj10 =>
            have H := HA.out
            clear HA
            simp only [stepladderlaw16_InfixWays.j1] at H
            by_cases c17 : x46_10 = true
            · subst c17
              have H1 : (some false) = some r := by rw [if_pos rfl] at H; exact H
              clear H
              have H := H1
              clear H1
              obtain rfl := Option.some.inj H
              go_wp2
              go_ret
              exact ⟨by first | rfl | (simp [errW_none, errW_some] <;> rfl) | (simp [*, errW_none, errW_some] <;> rfl), by repeat (first | (with_reducible first | exact HB.out | apply below_alloc | apply pw_below_drewN | apply below_drew1) | exact HB.out)⟩
            · replace c17 := Bool.eq_false_iff.mpr c17
              subst c17
              have H1 : (if t250 = true then (if (t249.length : Int) = 0 then (stepladderlaw16_InfixWays.j2 kj10 l0 a3 t249 true) else (if 0 < (t249.length : Int) then (if (rd t249 0) = a2 then (if 0 ≤ (wrap64 ((t249.length : Int) - 1)) then (if (wrap64 ((t249.length : Int) - 1)) < (t249.length : Int) then (if (rd t249 (wrap64 ((t249.length : Int) - 1))) = a1 then ((infix_Linked.f kj10 l0 t249).bind fun t256 => (stepladderlaw16_InfixWays.j2 kj10 l0 a3 t249 (!t256))) else (stepladderlaw16_InfixWays.j2 kj10 l0 a3 t249 true)) else (none)) else (none)) else (stepladderlaw16_InfixWays.j2 kj10 l0 a3 t249 true)) else (none))) else (some ((t249.length : Int) == 0))) = some r := by rw [if_neg (show ¬ (false = true) by decide)] at H; exact H
              clear H
              have H := H1
              clear H1
              by_cases c18 : t250 = true
              · subst c18
                have H1 : (if (t249.length : Int) = 0 then (stepladderlaw16_InfixWays.j2 kj10 l0 a3 t249 true) else (if 0 < (t249.length : Int) then (if (rd t249 0) = a2 then (if 0 ≤ (wrap64 ((t249.length : Int) - 1)) then (if (wrap64 ((t249.length : Int) - 1)) < (t249.length : Int) then (if (rd t249 (wrap64 ((t249.length : Int) - 1))) = a1 then ((infix_Linked.f kj10 l0 t249).bind fun t256 => (stepladderlaw16_InfixWays.j2 kj10 l0 a3 t249 (!t256))) else (stepladderlaw16_InfixWays.j2 kj10 l0 a3 t249 true)) else (none)) else (none)) else (stepladderlaw16_InfixWays.j2 kj10 l0 a3 t249 true)) else (none))) = some r := by rw [if_pos rfl] at H; exact H
                clear H
                have H := H1
                clear H1
                have HC19 := Aside0.mk H
                clear H
                go_upto_region 9 with (fail)
                go_cut [77] (fun v77 wc => ∃ (kq : Nat) (x77_18 : Bool), v77 = .bool x77_18 ∧ Aside0 (stepladderlaw16_InfixWays.j2 kq l0 a3 t249 x77_18 = some r) ∧ Aside0 (kq ≤ kj10) ∧ Aside0 (Kd.R (Kd.int .i64) 3 wc w.heap.size (fun _ => True) v251 t249) ∧ Aside0 (Below w.heap.size w wc))
                case first =>
                  have H := HC19.out
                  clear HC19
                  by_cases c20 : (t249.length : Int) = 0
                  · rw [if_pos c20] at H
                    have c20b0 : ((t249.length : Int) == 0) = true := beq_iff_eq.mpr c20
                    have c20b1 : ((t249.length : Int) != 0) = false := bne_eq_false_iff_eq.mpr c20
                    clear c20
                    (first | rw [c20b0] | (simp only [i64_w, i32_w]; rw [c20b0]) | skip)
                    have H' := Aside0.mk H
                    clear H
                    obtain ⟨Ao21, co21, eo21⟩ := Kd.R_slice HO_10.out
                    subst eo21
                    go_wp2
                    go_meet
                    case rel => exact ⟨_, (true), (by first | rfl | (simp; done) | (simp [*]; done)), H', ⟨by have := HJ5.out; have := HJ10.out; first | omega | exact Nat.le_refl _⟩, ⟨by (with_reducible repeat (first | apply Kd.R_alloc | apply Kd.R_drewN | apply Kd.R_drew)); exact HO_10.out⟩, ⟨by repeat (first | (with_reducible first | exact HB.out | apply below_alloc | apply pw_below_drewN | apply below_drew1) | exact HB.out)⟩⟩
                  · rw [if_neg c20] at H
                    have c20b0 : ((t249.length : Int) == 0) = false := beq_eq_false_iff_ne.mpr c20
                    have c20b1 : ((t249.length : Int) != 0) = true := bne_iff_ne.mpr c20
                    have c20b2 : ¬ (t249 = []) := fun h_ => c20 (by rw [h_]; rfl)
                    (first | rw [c20b0] | (simp only [i64_w, i32_w]; rw [c20b0]) | skip)
                    by_cases c22 : 0 < (t249.length : Int)
                    · rw [if_pos c22] at H
                      have c22b0 : decide (0 < (t249.length : Int)) = true := decide_eq_true c22
                      have c22b1 : decide (0 < t249.length) = true := decide_eq_true (by omega)
                      clear c22
                      by_cases c23 : (rd t249 0) = a2
                      · rw [if_pos c23] at H
                        have c23b0 : ((rd t249 0) == a2) = true := beq_iff_eq.mpr c23
                        have c23b1 : ((rd t249 0) != a2) = false := bne_eq_false_iff_eq.mpr c23
                        clear c23
                        obtain ⟨ji24, hji24⟩ : ∃ j_ : Int, (wrap64 ((t249.length : Int) - 1)) = j_ := ⟨_, rfl⟩
                        replace H : (if 0 ≤ (ji24) then (if (ji24) < (t249.length : Int) then (if (rd t249 (ji24)) = a1 then ((infix_Linked.f kj10 l0 t249).bind fun t256 => (stepladderlaw16_InfixWays.j2 kj10 l0 a3 t249 (!t256))) else (stepladderlaw16_InfixWays.j2 kj10 l0 a3 t249 true)) else (none)) else (none)) = some r := by first | (rw [hji24] at H; exact H) | (simp only [hji24] at H ⊢; exact H)
                        have hji24w : (IntKind.i64.wrap ((t249.length : Int) - 1)) = ji24 := (i64_w _).trans hji24
                        by_cases c25 : 0 ≤ (ji24)
                        · rw [if_pos c25] at H
                          have c25b0 : decide (0 ≤ (ji24)) = true := decide_eq_true c25
                          clear c25
                          by_cases c26 : (ji24) < (t249.length : Int)
                          · rw [if_pos c26] at H
                            have c26b0 : decide ((ji24) < (t249.length : Int)) = true := decide_eq_true c26
                            clear c26
                            by_cases c27 : (rd t249 (ji24)) = a1
                            · rw [if_pos c27] at H
                              have c27b0 : ((rd t249 (ji24)) == a1) = true := beq_iff_eq.mpr c27
                              have c27b1 : ((rd t249 (ji24)) != a1) = false := bne_eq_false_iff_eq.mpr c27
                              clear c27
                              replace H := Option.bind_eq_some_iff.mp H
                              obtain ⟨t256, A280, H⟩ := H
                              replace H : (stepladderlaw16_InfixWays.j2 kj10 l0 a3 t249 (!t256)) = some r := H
                              have A28 := Aside0.mk A280
                              clear A280
                              have H' := Aside0.mk H
                              clear H
                              obtain ⟨Ao29, co29, eo29⟩ := Kd.R_slice HO_10.out
                              subst eo29
                              have p254 : 0 ≤ (0 : Int) := (by omega)
                              have q254 : 0 < (t249.length : Int) := of_decide_eq_true (by first | (with_reducible assumption) | assumption)
                              obtain ⟨ad254, e254, hx254_0⟩ := Kd.at_int (Kd.R_reads' HO_10.out).2.2 0 p254 q254
                              cases e254
                              have qi254 : (0 < t249.length) = True := eq_true (by omega)
                              (try rw [show ((0 : Int)).toNat = 0 from rfl] at hx254_0)
                              (try rw [Addr.add_zero'] at hx254_0)
                              replace p254 := eq_true p254
                              replace q254 := eq_true q254
                              have p255 : 0 ≤ ((ji24) : Int) := of_decide_eq_true (by first | (with_reducible assumption) | assumption)
                              have q255 : (ji24) < (t249.length : Int) := of_decide_eq_true (by first | (with_reducible assumption) | assumption)
                              obtain ⟨ad255, e255, hx255_0⟩ := Kd.at_int (Kd.R_reads' HO_10.out).2.2 (ji24) p255 q255
                              obtain rfl : ad254 = ad255 := (by injection e255)
                              replace p255 := eq_true p255
                              replace q255 := eq_true q255
                              go_wp2_with (first | (go_at_call 22; (with_reducible refine (infix_Linked.calls kj10 _ _ l0 _ _ t249 t256 _ ?side1 ?side2 ?side3 ?side4 A28.out).mono ?_); (case side1 => repeat (first | exact (Kd.C_below HR0.out HB.out) | (with_reducible refine Kd.C_alloc ?_ _) | (with_reducible refine Kd.C_drewN ?_ _) | (with_reducible refine Kd.C_drew ?_))); (case side2 => exact HC0.out); (case side3 => repeat (first | exact (Kd.R_reads' HO_10.out).2.2 | (with_reducible refine Kd.C_alloc ?_ _) | (with_reducible refine Kd.C_drewN ?_ _) | (with_reducible refine Kd.C_drew ?_))); (case side4 => exact (Kd.R_reads' HO_10.out).2.1); rintro e w30 ⟨rfl, hb⟩; have n0_ := Aside0.mk (Kd.R_below (by (with_reducible repeat (first | apply Kd.R_alloc | apply Kd.R_drewN | apply Kd.R_drew)); exact HO_10.out) hb); have n1_ := Aside0.mk (below_step (by repeat (first | (with_reducible first | exact HB.out | apply below_alloc | apply pw_below_drewN | apply below_drew1) | exact HB.out)) hb); clear HO_10; clear HB; have HO_10 := n0_; have HB := n1_; clear n0_ n1_; (try clear hb); (try clear hb2); (try clear hk); (try clear hi)))
                              go_meet
                              case rel => exact ⟨_, (!t256), (by first | rfl | (simp; done) | (simp [*]; done)), H', ⟨by have := HJ5.out; have := HJ10.out; first | omega | exact Nat.le_refl _⟩, ⟨by (with_reducible repeat (first | apply Kd.R_alloc | apply Kd.R_drewN | apply Kd.R_drew)); exact HO_10.out⟩, ⟨by repeat (first | (with_reducible first | exact HB.out | apply below_alloc | apply pw_below_drewN | apply below_drew1) | exact HB.out)⟩⟩
                            · rw [if_neg c27] at H
                              have c27b0 : ((rd t249 (ji24)) == a1) = false := beq_eq_false_iff_ne.mpr c27
                              have c27b1 : ((rd t249 (ji24)) != a1) = true := bne_iff_ne.mpr c27
                              have H' := Aside0.mk H
                              clear H
                              obtain ⟨Ao31, co31, eo31⟩ := Kd.R_slice HO_10.out
                              subst eo31
                              have p254 : 0 ≤ (0 : Int) := (by omega)
                              have q254 : 0 < (t249.length : Int) := of_decide_eq_true (by first | (with_reducible assumption) | assumption)
                              obtain ⟨ad254, e254, hx254_0⟩ := Kd.at_int (Kd.R_reads' HO_10.out).2.2 0 p254 q254
                              cases e254
                              have qi254 : (0 < t249.length) = True := eq_true (by omega)
                              (try rw [show ((0 : Int)).toNat = 0 from rfl] at hx254_0)
                              (try rw [Addr.add_zero'] at hx254_0)
                              replace p254 := eq_true p254
                              replace q254 := eq_true q254
                              have p255 : 0 ≤ ((ji24) : Int) := of_decide_eq_true (by first | (with_reducible assumption) | assumption)
                              have q255 : (ji24) < (t249.length : Int) := of_decide_eq_true (by first | (with_reducible assumption) | assumption)
                              obtain ⟨ad255, e255, hx255_0⟩ := Kd.at_int (Kd.R_reads' HO_10.out).2.2 (ji24) p255 q255
                              obtain rfl : ad254 = ad255 := (by injection e255)
                              replace p255 := eq_true p255
                              replace q255 := eq_true q255
                              go_wp2
                              go_meet
                              case rel => exact ⟨_, (true), (by first | rfl | (simp; done) | (simp [*]; done)), H', ⟨by have := HJ5.out; have := HJ10.out; first | omega | exact Nat.le_refl _⟩, ⟨by (with_reducible repeat (first | apply Kd.R_alloc | apply Kd.R_drewN | apply Kd.R_drew)); exact HO_10.out⟩, ⟨by repeat (first | (with_reducible first | exact HB.out | apply below_alloc | apply pw_below_drewN | apply below_drew1) | exact HB.out)⟩⟩
                          · rw [if_neg c26] at H
                            exact absurd H (by simp)
                        · rw [if_neg c25] at H
                          exact absurd H (by simp)
                      · rw [if_neg c23] at H
                        have c23b0 : ((rd t249 0) == a2) = false := beq_eq_false_iff_ne.mpr c23
                        have c23b1 : ((rd t249 0) != a2) = true := bne_iff_ne.mpr c23
                        have H' := Aside0.mk H
                        clear H
                        obtain ⟨Ao32, co32, eo32⟩ := Kd.R_slice HO_10.out
                        subst eo32
                        have p254 : 0 ≤ (0 : Int) := (by omega)
                        have q254 : 0 < (t249.length : Int) := of_decide_eq_true (by first | (with_reducible assumption) | assumption)
                        obtain ⟨ad254, e254, hx254_0⟩ := Kd.at_int (Kd.R_reads' HO_10.out).2.2 0 p254 q254
                        cases e254
                        have qi254 : (0 < t249.length) = True := eq_true (by omega)
                        (try rw [show ((0 : Int)).toNat = 0 from rfl] at hx254_0)
                        (try rw [Addr.add_zero'] at hx254_0)
                        replace p254 := eq_true p254
                        replace q254 := eq_true q254
                        go_wp2
                        go_meet
                        case rel => exact ⟨_, (true), (by first | rfl | (simp; done) | (simp [*]; done)), H', ⟨by have := HJ5.out; have := HJ10.out; first | omega | exact Nat.le_refl _⟩, ⟨by (with_reducible repeat (first | apply Kd.R_alloc | apply Kd.R_drewN | apply Kd.R_drew)); exact HO_10.out⟩, ⟨by repeat (first | (with_reducible first | exact HB.out | apply below_alloc | apply pw_below_drewN | apply below_drew1) | exact HB.out)⟩⟩
                    · rw [if_neg c22] at H
                      exact absurd H (by simp)
                case rest =>
                  clear HC19
                  try clear c1
                  try clear c2
                  try clear p2
                  try clear q2
                  try clear hx2
                  try clear qi2
                  try clear c5
                  try clear p6
                  try clear c8
                  try clear c9
                  try clear c14
                  try clear c15
                  try clear c15b0
                  try clear c16
                  try clear c16b0
                  try clear c17
                  try clear c18
                  try clear c20
                  try clear c20b0
                  try clear c20b1
                  try clear c20b2
                  try clear c22
                  try clear c22b0
                  try clear c22b1
                  try clear c23
                  try clear c23b0
                  try clear c23b1
                  try clear c25
                  try clear c25b0
                  try clear p25
                  try clear q25
                  try clear hx25
                  try clear qi25
                  try clear c26
                  try clear c26b0
                  try clear c27
                  try clear c27b0
                  try clear c27b1
                  try clear hx254_0
                  try clear hx255_0
                  try clear p2
                  try clear p254
                  try clear p255
                  try clear q254
                  try clear q255
                  obtain ⟨kq, x77_18, rfl, HA, HJ18, HO_10, HB⟩ := hcut
                  cases kq with
                  | zero => exact absurd HA.out (by simp [stepladderlaw16_InfixWays.j2])
                  | succ kj18 =>
                    have H := HA.out
                    clear HA
                    simp only [stepladderlaw16_InfixWays.j2] at H
                    by_cases c33 : x77_18 = true
                    · subst c33
                      have H1 : (some false) = some r := by rw [if_pos rfl] at H; exact H
                      clear H
                      have H := H1
                      clear H1
                      obtain rfl := Option.some.inj H
                      go_wp2
                      go_ret
                      exact ⟨by first | rfl | (simp [errW_none, errW_some] <;> rfl) | (simp [*, errW_none, errW_some] <;> rfl), by repeat (first | (with_reducible first | exact HB.out | apply below_alloc | apply pw_below_drewN | apply below_drew1) | exact HB.out)⟩
                    · replace c33 := Bool.eq_false_iff.mpr c33
                      subst c33
                      have H1 : (if a3 < 0 then (stepladderlaw16_InfixWays.j3 kj18 l0 a3 t249 true) else (stepladderlaw16_InfixWays.j3 kj18 l0 a3 t249 (decide (a3 ≥ (t249.length : Int))))) = some r := by rw [if_neg (show ¬ (false = true) by decide)] at H; exact H
                      clear H
                      have H := H1
                      clear H1
                      have HC34 := Aside0.mk H
                      clear H
                      go_upto_region 11 with (fail)
                      go_cut [85] (fun v85 wc => ∃ (kq : Nat) (x85_33 : Bool), v85 = .bool x85_33 ∧ Aside0 (stepladderlaw16_InfixWays.j3 kq l0 a3 t249 x85_33 = some r) ∧ Aside0 (kq ≤ kj18) ∧ Aside0 (Kd.R (Kd.int .i64) 3 wc w.heap.size (fun _ => True) v251 t249) ∧ Aside0 (Below w.heap.size w wc))
                      case first =>
                        have H := HC34.out
                        clear HC34
                        by_cases c35 : a3 < 0
                        · rw [if_pos c35] at H
                          have c35b0 : decide (a3 < 0) = true := decide_eq_true c35
                          clear c35
                          (first | rw [c35b0] | (simp only [i64_w, i32_w]; rw [c35b0]) | skip)
                          have H' := Aside0.mk H
                          clear H
                          go_wp2
                          go_meet
                          case rel => exact ⟨_, (true), (by first | rfl | (simp; done) | (simp [*]; done)), H', ⟨by have := HJ5.out; have := HJ10.out; have := HJ18.out; first | omega | exact Nat.le_refl _⟩, ⟨by (with_reducible repeat (first | apply Kd.R_alloc | apply Kd.R_drewN | apply Kd.R_drew)); exact HO_10.out⟩, ⟨by repeat (first | (with_reducible first | exact HB.out | apply below_alloc | apply pw_below_drewN | apply below_drew1) | exact HB.out)⟩⟩
                        · rw [if_neg c35] at H
                          have c35b0 : decide (a3 < 0) = false := decide_eq_false c35
                          clear c35
                          (first | rw [c35b0] | (simp only [i64_w, i32_w]; rw [c35b0]) | skip)
                          have H' := Aside0.mk H
                          clear H
                          obtain ⟨Ao36, co36, eo36⟩ := Kd.R_slice HO_10.out
                          subst eo36
                          go_wp2
                          go_meet
                          case rel => exact ⟨_, (decide (a3 ≥ (t249.length : Int))), (by first | rfl | (simp; done) | (simp [*]; done)), H', ⟨by have := HJ5.out; have := HJ10.out; have := HJ18.out; first | omega | exact Nat.le_refl _⟩, ⟨by (with_reducible repeat (first | apply Kd.R_alloc | apply Kd.R_drewN | apply Kd.R_drew)); exact HO_10.out⟩, ⟨by repeat (first | (with_reducible first | exact HB.out | apply below_alloc | apply pw_below_drewN | apply below_drew1) | exact HB.out)⟩⟩
                      case rest =>
                        clear HC34
                        try clear c1
                        try clear c2
                        try clear p2
                        try clear q2
                        try clear hx2
                        try clear qi2
                        try clear c3
                        try clear c5
                        try clear p6
                        try clear c8
                        try clear c9
                        try clear c14
                        try clear c15
                        try clear c15b0
                        try clear c16
                        try clear c16b0
                        try clear c17
                        try clear c18
                        try clear c20
                        try clear c20b0
                        try clear c20b1
                        try clear c20b2
                        try clear c22
                        try clear c22b0
                        try clear c22b1
                        try clear c23
                        try clear c23b0
                        try clear c23b1
                        try clear c25
                        try clear c25b0
                        try clear p25
                        try clear q25
                        try clear hx25
                        try clear qi25
                        try clear c26
                        try clear c26b0
                        try clear c27
                        try clear c27b0
                        try clear c27b1
                        try clear c33
                        try clear c35
                        try clear c35b0
                        try clear hx254_0
                        try clear hx255_0
                        try clear p2
                        try clear p25
                        try clear p254
                        try clear p255
                        try clear p6
                        try clear q2
                        try clear q25
                        try clear q254
                        try clear q255
                        obtain ⟨kq, x85_33, rfl, HA, HJ33, HO_10, HB⟩ := hcut
                        cases kq with
                        | zero => exact absurd HA.out (by simp [stepladderlaw16_InfixWays.j3])
                        | succ kj33 =>
                          have H := HA.out
                          clear HA
                          simp only [stepladderlaw16_InfixWays.j3] at H
                          by_cases c37 : x85_33 = true
                          · subst c37
                            have H1 : (some true) = some r := by rw [if_pos rfl] at H; exact H
                            clear H
                            have H := H1
                            clear H1
                            obtain rfl := Option.some.inj H
                            go_wp2
                            go_ret
                            exact ⟨by first | rfl | (simp [errW_none, errW_some] <;> rfl) | (simp [*, errW_none, errW_some] <;> rfl), by repeat (first | (with_reducible first | exact HB.out | apply below_alloc | apply pw_below_drewN | apply below_drew1) | exact HB.out)⟩
                          · replace c37 := Bool.eq_false_iff.mpr c37
                            subst c37
                            have H1 : (if 0 ≤ a3 then (if a3 ≤ (t249.length : Int) then ((infix_Linked.f kj33 l0 (t249.drop (a3 : Int).toNat)).bind fun t261 => (if t261 = true then ((infix_Linked.f kj33 l0 (t249.take (a3 : Int).toNat)).bind fun t266 => (some t266)) else (some false))) else (none)) else (none)) = some r := by rw [if_neg (show ¬ (false = true) by decide)] at H; exact H
                            clear H
                            have H := H1
                            clear H1
                            by_cases c38 : 0 ≤ a3
                            · rw [if_pos c38] at H
                              have c38b0 := eq_true c38
                              have c38b1 : decide (0 ≤ a3) = true := decide_eq_true c38
                              clear c38
                              by_cases c39 : a3 ≤ (t249.length : Int)
                              · rw [if_pos c39] at H
                                have c39b0 := eq_true c39
                                have c39b1 : decide (a3 ≤ (t249.length : Int)) = true := decide_eq_true c39
                                clear c39
                                obtain ⟨y257, hy257⟩ : ∃ y_ : List Int, y_ = (t249.drop (a3 : Int).toNat) := ⟨_, rfl⟩
                                replace H : ((infix_Linked.f kj33 l0 y257).bind fun t261 => (if t261 = true then ((infix_Linked.f kj33 l0 (t249.take (a3 : Int).toNat)).bind fun t266 => (some t266)) else (some false))) = some r := by first | (rw [hy257]; with_reducible exact H) | (have H2_ := (Option.bind_some _ _).symm.trans H; rw [hy257]; with_reducible exact H2_) | (have H2_ := (Option.bind_some _ _).symm.trans H; with_reducible exact H2_) | with_reducible exact H | (rw [hy257]; exact H) | exact H
                                have Ny257 := Aside0.mk hy257
                                clear hy257
                                replace H := Option.bind_eq_some_iff.mp H
                                obtain ⟨t261, A400, H⟩ := H
                                replace H : (if t261 = true then ((infix_Linked.f kj33 l0 (t249.take (a3 : Int).toNat)).bind fun t266 => (some t266)) else (some false)) = some r := H
                                have A40 := Aside0.mk A400
                                clear A400
                                by_cases c41 : t261 = true
                                · subst c41
                                  have H1 : ((infix_Linked.f kj33 l0 (t249.take (a3 : Int).toNat)).bind fun t266 => (some t266)) = some r := by rw [if_pos rfl] at H; exact H
                                  clear H
                                  have H := H1
                                  clear H1
                                  have c42b0 := eq_true (of_decide_eq_true (by first | (with_reducible assumption) | assumption) : 0 ≤ a3)
                                  have c43b0 := eq_true (of_decide_eq_true (by first | (with_reducible assumption) | assumption) : a3 ≤ (t249.length : Int))
                                  obtain ⟨y262, hy262⟩ : ∃ y_ : List Int, y_ = (t249.take (a3 : Int).toNat) := ⟨_, rfl⟩
                                  replace H : ((infix_Linked.f kj33 l0 y262).bind fun t266 => (some t266)) = some r := by first | (rw [hy262]; with_reducible exact H) | (have H2_ := (Option.bind_some _ _).symm.trans H; rw [hy262]; with_reducible exact H2_) | (have H2_ := (Option.bind_some _ _).symm.trans H; with_reducible exact H2_) | with_reducible exact H | (rw [hy262]; exact H) | exact H
                                  have Ny262 := Aside0.mk hy262
                                  clear hy262
                                  replace H := Option.bind_eq_some_iff.mp H
                                  obtain ⟨t266, A440, H⟩ := H
                                  replace H : (some t266) = some r := H
                                  have A44 := Aside0.mk A440
                                  clear A440
                                  obtain rfl := Option.some.inj H
                                  obtain ⟨Ao46, co46, eo46⟩ := Kd.R_slice HO_10.out
                                  subst eo46
                                  have q45 : (a3 : Int) ≤ ((t249.length : Int) : Int) := of_decide_eq_true (by first | (with_reducible assumption) | assumption)
                                  obtain ⟨i045, hi045, _, hsz45, _⟩ := info_parts info3
                                  have hroom45 : t249.length ≤ co46 := (Kd.R_reads' HO_10.out).2.1
                                  have hC45 : Kd.C (Kd.int .i64) _ Ao46 t249.length t249 := (Kd.R_reads' HO_10.out).2.2
                                  have q045 : (0 : Int) ≤ (a3 : Int) := of_decide_eq_true (by first | (with_reducible assumption) | assumption)
                                  have hcut45 := cut_from (P := Try.prog) 22 3 .i64 Try.underlying22 hi045 1 hsz45 Ao46 t249.length co46 a3 q045 q45
                                  have hr45 := Kd.C_drop (m := (a3 : Int).toNat) (c := co46) hC45 (by omega) hroom45
                                  obtain ⟨A45, hA45⟩ : ∃ A1, A1 = (if co46 = (a3 : Int).toNat then Ao46 else (Ao46 : Option Addr).map (·.add ((a3 : Int).toNat * 1))) := ⟨_, rfl⟩
                                  obtain ⟨c45, hc45⟩ : ∃ c1, c1 = co46 - (a3 : Int).toNat := ⟨_, rfl⟩
                                  have hy45 : y257.length = t249.length - (a3 : Int).toNat := (by rw [Ny257.out, List.length_drop] <;> omega)
                                  rw [show (t249).drop (a3 : Int).toNat = y257 from Ny257.out.symm] at hr45
                                  replace hr45 : Kd.C (Kd.int .i64) _ A45 y257.length y257 := (by rw [hA45]; exact hr45)
                                  rw [← hy45, ← hA45, ← hc45] at hcut45
                                  have HR260 := Aside0.mk hr45
                                  have HC260 := Aside0.mk (show y257.length ≤ c45 from by rw [hy45, hc45]; exact Nat.sub_le_sub_right hroom45 _)
                                  clear hr45 hC45 hroom45 hi045 hsz45 hc45
                                  have KY45 := Aside0.mk hy45
                                  have KA45 := Aside0.mk hA45
                                  clear hy45 hA45
                                  have KL45 := Aside0.mk (show (a3 : Int).toNat ≤ t249.length from by omega)
                                  replace q45 := eq_true q45
                                  go_wp2_with (first | ((with_reducible refine gate_callee (f := 22) rfl ?_); refine goesL_ (some 90) rfl rfl Try.func22 (by kernel_rfl) rfl #[.slice A0 l0.length c0, .slice A45 y257.length c45] rfl (by (try simp only [List.map_toArray, List.map_cons, List.map_nil]); first | done | rfl | (simp only [List.length_drop, List.length_take]; rfl)) ?_; (with_reducible refine (infix_Linked.calls kj33 _ _ l0 _ _ y257 true _ ?side1 ?side2 ?side3 ?side4 A40.out).mono ?_); (case side1 => repeat (first | exact (Kd.C_below HR0.out HB.out) | (with_reducible refine Kd.C_alloc ?_ _) | (with_reducible refine Kd.C_drewN ?_ _) | (with_reducible refine Kd.C_drew ?_))); (case side2 => exact HC0.out); (case side3 => repeat (first | exact (by repeat (first | (with_reducible exact HR260.out) | (with_reducible refine Kd.C_alloc ?_ _) | (with_reducible refine Kd.C_drewN ?_ _) | (with_reducible refine Kd.C_drew ?_) | exact HR260.out)) | (with_reducible refine Kd.C_alloc ?_ _) | (with_reducible refine Kd.C_drewN ?_ _) | (with_reducible refine Kd.C_drew ?_))); (case side4 => exact HC260.out); rintro e w47 ⟨rfl, hb⟩; refine ⟨_, rfl, ?_⟩; have n0_ := Aside0.mk (Kd.R_below (by (with_reducible repeat (first | apply Kd.R_alloc | apply Kd.R_drewN | apply Kd.R_drew)); exact HO_10.out) hb); have n1_ := Aside0.mk (Kd.C_below (by repeat (first | (with_reducible exact HR260.out) | (with_reducible refine Kd.C_alloc ?_ _) | (with_reducible refine Kd.C_drewN ?_ _) | (with_reducible refine Kd.C_drew ?_) | exact HR260.out)) hb); have n2_ := Aside0.mk (below_step (by repeat (first | (with_reducible first | exact HB.out | apply below_alloc | apply pw_below_drewN | apply below_drew1) | exact HB.out)) hb); clear HO_10; clear HR260; clear HB; have HO_10 := n0_; have HR260 := n1_; have HB := n2_; clear n0_ n1_ n2_; (try clear hb); (try clear hb2); (try clear hk); (try clear hi); have q48 : (a3 : Int) ≤ ((t249.length : Int) : Int) := of_decide_eq_true (by first | (with_reducible assumption) | assumption); obtain ⟨i048, hi048, _, hsz48, _⟩ := info_parts info3; have hroom48 : t249.length ≤ co46 := (Kd.R_reads' HO_10.out).2.1; have hC48 : Kd.C (Kd.int .i64) _ Ao46 t249.length t249 := (Kd.R_reads' HO_10.out).2.2; have hcut48 := cut_to (P := Try.prog) 22 3 .i64 Try.underlying22 hi048 Ao46 t249.length co46 a3 (of_decide_eq_true (by first | (with_reducible assumption) | assumption)) q48 hroom48; have hr48 := Kd.C_take (m := (a3 : Int).toNat) hC48 (by omega); have hy48 : y262.length = (a3 : Int).toNat := (by rw [Ny262.out, List.length_take]; omega); rw [← Ny262.out] at hr48; rw [← hy48] at hcut48; have HR265 := Aside0.mk hr48; have HC265 := Aside0.mk (show y262.length ≤ co46 from by omega); clear hr48 hC48 hroom48 hi048 hsz48; have KY48 := Aside0.mk hy48; clear hy48; have KL48 := Aside0.mk (show (a3 : Int).toNat ≤ t249.length from by omega); replace q48 := eq_true q48) | (go_at_call 22; (with_reducible refine (infix_Linked.calls kj33 _ _ l0 _ _ y262 t266 _ ?side1 ?side2 ?side3 ?side4 A44.out).mono ?_); (case side1 => repeat (first | exact (Kd.C_below HR0.out HB.out) | (with_reducible refine Kd.C_alloc ?_ _) | (with_reducible refine Kd.C_drewN ?_ _) | (with_reducible refine Kd.C_drew ?_))); (case side2 => exact HC0.out); (case side3 => repeat (first | exact (by repeat (first | (with_reducible exact HR265.out) | (with_reducible refine Kd.C_alloc ?_ _) | (with_reducible refine Kd.C_drewN ?_ _) | (with_reducible refine Kd.C_drew ?_) | exact HR265.out)) | (with_reducible refine Kd.C_alloc ?_ _) | (with_reducible refine Kd.C_drewN ?_ _) | (with_reducible refine Kd.C_drew ?_))); (case side4 => exact HC265.out); rintro e w49 ⟨rfl, hb⟩; have n0_ := Aside0.mk (Kd.R_below (by (with_reducible repeat (first | apply Kd.R_alloc | apply Kd.R_drewN | apply Kd.R_drew)); exact HO_10.out) hb); have n1_ := Aside0.mk (Kd.C_below (by repeat (first | (with_reducible exact HR260.out) | (with_reducible refine Kd.C_alloc ?_ _) | (with_reducible refine Kd.C_drewN ?_ _) | (with_reducible refine Kd.C_drew ?_) | exact HR260.out)) hb); have n2_ := Aside0.mk (Kd.C_below (by repeat (first | (with_reducible exact HR265.out) | (with_reducible refine Kd.C_alloc ?_ _) | (with_reducible refine Kd.C_drewN ?_ _) | (with_reducible refine Kd.C_drew ?_) | exact HR265.out)) hb); have n3_ := Aside0.mk (below_step (by repeat (first | (with_reducible first | exact HB.out | apply below_alloc | apply pw_below_drewN | apply below_drew1) | exact HB.out)) hb); clear HO_10; clear HR260; clear HR265; clear HB; have HO_10 := n0_; have HR260 := n1_; have HR265 := n2_; have HB := n3_; clear n0_ n1_ n2_ n3_; (try clear hb); (try clear hb2); (try clear hk); (try clear hi)))
                                  go_ret
                                  exact ⟨by first | rfl | (simp [errW_none, errW_some] <;> rfl) | (simp [*, errW_none, errW_some] <;> rfl), by repeat (first | (with_reducible first | exact HB.out | apply below_alloc | apply pw_below_drewN | apply below_drew1) | exact HB.out)⟩
                                · replace c41 := Bool.eq_false_iff.mpr c41
                                  subst c41
                                  have H1 : (some false) = some r := by rw [if_neg (show ¬ (false = true) by decide)] at H; exact H
                                  clear H
                                  have H := H1
                                  clear H1
                                  obtain rfl := Option.some.inj H
                                  obtain ⟨Ao51, co51, eo51⟩ := Kd.R_slice HO_10.out
                                  subst eo51
                                  have q50 : (a3 : Int) ≤ ((t249.length : Int) : Int) := of_decide_eq_true (by first | (with_reducible assumption) | assumption)
                                  obtain ⟨i050, hi050, _, hsz50, _⟩ := info_parts info3
                                  have hroom50 : t249.length ≤ co51 := (Kd.R_reads' HO_10.out).2.1
                                  have hC50 : Kd.C (Kd.int .i64) _ Ao51 t249.length t249 := (Kd.R_reads' HO_10.out).2.2
                                  have q050 : (0 : Int) ≤ (a3 : Int) := of_decide_eq_true (by first | (with_reducible assumption) | assumption)
                                  have hcut50 := cut_from (P := Try.prog) 22 3 .i64 Try.underlying22 hi050 1 hsz50 Ao51 t249.length co51 a3 q050 q50
                                  have hr50 := Kd.C_drop (m := (a3 : Int).toNat) (c := co51) hC50 (by omega) hroom50
                                  obtain ⟨A50, hA50⟩ : ∃ A1, A1 = (if co51 = (a3 : Int).toNat then Ao51 else (Ao51 : Option Addr).map (·.add ((a3 : Int).toNat * 1))) := ⟨_, rfl⟩
                                  obtain ⟨c50, hc50⟩ : ∃ c1, c1 = co51 - (a3 : Int).toNat := ⟨_, rfl⟩
                                  have hy50 : y257.length = t249.length - (a3 : Int).toNat := (by rw [Ny257.out, List.length_drop] <;> omega)
                                  rw [show (t249).drop (a3 : Int).toNat = y257 from Ny257.out.symm] at hr50
                                  replace hr50 : Kd.C (Kd.int .i64) _ A50 y257.length y257 := (by rw [hA50]; exact hr50)
                                  rw [← hy50, ← hA50, ← hc50] at hcut50
                                  have HR260 := Aside0.mk hr50
                                  have HC260 := Aside0.mk (show y257.length ≤ c50 from by rw [hy50, hc50]; exact Nat.sub_le_sub_right hroom50 _)
                                  clear hr50 hC50 hroom50 hi050 hsz50 hc50
                                  have KY50 := Aside0.mk hy50
                                  have KA50 := Aside0.mk hA50
                                  clear hy50 hA50
                                  have KL50 := Aside0.mk (show (a3 : Int).toNat ≤ t249.length from by omega)
                                  replace q50 := eq_true q50
                                  go_wp2_with (first | ((with_reducible refine gate_callee (f := 22) rfl ?_); refine goesL_ (some 90) rfl rfl Try.func22 (by kernel_rfl) rfl #[.slice A0 l0.length c0, .slice A50 y257.length c50] rfl (by (try simp only [List.map_toArray, List.map_cons, List.map_nil]); first | done | rfl | (simp only [List.length_drop, List.length_take]; rfl)) ?_; (with_reducible refine (infix_Linked.calls kj33 _ _ l0 _ _ y257 false _ ?side1 ?side2 ?side3 ?side4 A40.out).mono ?_); (case side1 => repeat (first | exact (Kd.C_below HR0.out HB.out) | (with_reducible refine Kd.C_alloc ?_ _) | (with_reducible refine Kd.C_drewN ?_ _) | (with_reducible refine Kd.C_drew ?_))); (case side2 => exact HC0.out); (case side3 => repeat (first | exact (by repeat (first | (with_reducible exact HR260.out) | (with_reducible refine Kd.C_alloc ?_ _) | (with_reducible refine Kd.C_drewN ?_ _) | (with_reducible refine Kd.C_drew ?_) | exact HR260.out)) | (with_reducible refine Kd.C_alloc ?_ _) | (with_reducible refine Kd.C_drewN ?_ _) | (with_reducible refine Kd.C_drew ?_))); (case side4 => exact HC260.out); rintro e w52 ⟨rfl, hb⟩; refine ⟨_, rfl, ?_⟩; have n0_ := Aside0.mk (Kd.R_below (by (with_reducible repeat (first | apply Kd.R_alloc | apply Kd.R_drewN | apply Kd.R_drew)); exact HO_10.out) hb); have n1_ := Aside0.mk (Kd.C_below (by repeat (first | (with_reducible exact HR260.out) | (with_reducible refine Kd.C_alloc ?_ _) | (with_reducible refine Kd.C_drewN ?_ _) | (with_reducible refine Kd.C_drew ?_) | exact HR260.out)) hb); have n2_ := Aside0.mk (below_step (by repeat (first | (with_reducible first | exact HB.out | apply below_alloc | apply pw_below_drewN | apply below_drew1) | exact HB.out)) hb); clear HO_10; clear HR260; clear HB; have HO_10 := n0_; have HR260 := n1_; have HB := n2_; clear n0_ n1_ n2_; (try clear hb); (try clear hb2); (try clear hk); (try clear hi)))
                                  go_ret
                                  exact ⟨by first | rfl | (simp [errW_none, errW_some] <;> rfl) | (simp [*, errW_none, errW_some] <;> rfl), by repeat (first | (with_reducible first | exact HB.out | apply below_alloc | apply pw_below_drewN | apply below_drew1) | exact HB.out)⟩
                              · rw [if_neg c39] at H
                                exact absurd H (by simp)
                            · rw [if_neg c38] at H
                              exact absurd H (by simp)
              · replace c18 := Bool.eq_false_iff.mpr c18
                subst c18
                have H1 : (some ((t249.length : Int) == 0)) = some r := by rw [if_neg (show ¬ (false = true) by decide)] at H; exact H
                clear H
                have H := H1
                clear H1
                obtain rfl := Option.some.inj H
                obtain ⟨Ao53, co53, eo53⟩ := Kd.R_slice HO_10.out
                subst eo53
                go_wp2
                go_ret
                exact ⟨by first | rfl | (simp [errW_none, errW_some] <;> rfl) | (simp [*, errW_none, errW_some] <;> rfl), by repeat (first | (with_reducible first | exact HB.out | apply below_alloc | apply pw_below_drewN | apply below_drew1) | exact HB.out)⟩

/-- THE ONE PURE STATEMENT of stepladderlaw16_InfixWays: yours. -/
def stepladderlaw16_InfixWays.Pure : Prop := ∀ (l0 : List Int) (a1 : Int) (a2 : Int) (a3 : Int), l0.length ≤ maxLen → l0.length * 8 ≤ 140737488351232 → (∀ x ∈ l0, (Lit.int .i64 x).wf = true) → (Lit.int .i64 a1).wf = true → (Lit.int .i64 a2).wf = true → (Lit.int .i64 a3).wf = true → ∃ k, stepladderlaw16_InfixWays.f k l0 a1 a2 a3 = some true
theorem stepladderlaw16_InfixWays.walk (P : stepladderlaw16_InfixWays.Pure) (a0 : Option Addr) (len0 cap0 : Nat) (z0 : List Int) (a1 : Int) (a2 : Int) (a3 : Int) (w : World) (w0 : (a0 = none ∧ len0 = 0 ∧ cap0 = 0 ∧ z0 = []) ∨ ∃ x, a0 = some x ∧ len0 ≤ cap0 ∧ cap0 ≤ maxLen ∧ z0.length = cap0 ∧ (∀ i, i < z0.length → w.cell? (x.add i) = some (.int .i64 (z0.getD i 0))) ∧ ∀ n ∈ z0, (Lit.int .i64 n).wf = true) (y0 : len0 * 8 ≤ 140737488351232) (w1 : (Lit.int .i64 a1).wf = true) (w2 : (Lit.int .i64 a2).wf = true) (w3 : (Lit.int .i64 a3).wf = true) :
    Calls Try.prog 5 #[.slice a0 len0 cap0, .int .i64 a1, .int .i64 a2, .int .i64 a3] w fun e w' => e = .returned (.bool true) ∧ Below w.heap.size w w' := by
  obtain ⟨l0, rfl, hr0, hm0, hw0, hc0⟩ := ReadsInt.ofRowC w0
  obtain ⟨k, h⟩ := P l0 a1 a2 a3 hm0 y0 hw0 w1 w2 w3
  refine (stepladderlaw16_InfixWays.calls k _ _ l0 a1 a2 a3 true w (Kd.C_of_reads (d := (0 : Int)) (h1 := fun _ => rfl) hr0) hc0 h).mono ?_
  rintro e w' ⟨rfl, hd⟩
  exact ⟨rfl, hd⟩

end Go.Proofs.Ytgjkjndfnjabeaa.X
