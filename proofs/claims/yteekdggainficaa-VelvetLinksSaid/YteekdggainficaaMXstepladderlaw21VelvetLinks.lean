import Derived.Test.YteekdggainficaaMB1
import Derived.Test.YteekdggainficaaMB4
import Derived.Test.YteekdggainficaaMB3
import Derived.Test.YteekdggainficaaMB5
import Derived.Test.YteekdggainficaaMB2
-- By this session's own program (wip/tools/xprint.py), over the kit's print. Not trusted: Lean checks it.
namespace Go.Proofs.Yteekdggainficaa.X
open Go.RowKit Go.Proofs.YteekdggainficaaW.PrintWords Go.Proofs.YteekdggainficaaW.PrintLast Go.Proofs.YteekdggainficaaW.PrintMore
attribute [local go_sem] max2_int min2_int max_two min_two max_three min_three max_four min_four   -- for this text's walks alone
set_option linter.unusedVariables false
set_option linter.unusedSimpArgs false

/-! ### stepladderlaw21_VelvetLinks: function 7 -/
mutual
def stepladderlaw21_VelvetLinks.j0 : Nat → List (S36) → Int → Bool → Bool → Option (Bool)
  | 0, _, _, _, _ => none
  | k + 1, x0, x1, x5, x37 => if x37 = true then (some x5) else ((velvet_Links.f x0 x1).bind fun t326 => ((velvet_Smooth.f x0).bind fun t329 => (if (t326.length : Int) = 0 then (stepladderlaw21_VelvetLinks.j1 k x0 x1 t326 t329 true) else (if 0 < (t326.length : Int) then (if (rd t326 0) = 0 then (stepladderlaw21_VelvetLinks.j1 k x0 x1 t326 t329 ((t329.length : Int) != (x0.length : Int))) else (stepladderlaw21_VelvetLinks.j1 k x0 x1 t326 t329 true)) else (none)))))
def stepladderlaw21_VelvetLinks.j1 : Nat → List (S36) → Int → List Int → List Bool → Bool → Option (Bool)
  | 0, _, _, _, _, _ => none
  | k + 1, x0, x1, x7, x8, x59 => if x59 = true then (some false) else (stepladderlaw21_VelvetLinks.l0 k x0 x1 x7 x8 1)
def stepladderlaw21_VelvetLinks.l0 : Nat → List (S36) → Int → List Int → List Bool → Int → Option (Bool)
  | 0, _, _, _, _, _ => none
  | k + 1, x0, x1, x7, x8, x9 => if x9 < (x7.length : Int) then (if 0 ≤ x9 then (if (rd x7 x9) < 1 then (some false) else (if (rd x7 x9) ≥ x1 then (some false) else (if 0 ≤ (rd x7 x9) then (if (rd x7 x9) < (x8.length : Int) then (if (rdOf false x8 (rd x7 x9) = true) then (if (rd x7 x9) < (x0.length : Int) then (if ((rd_T36 x0 (rd x7 x9)).f1) < x9 then (some false) else (if x9 > 1 then (if 0 ≤ (wrap64 (x9 - 1)) then (if (wrap64 (x9 - 1)) < (x7.length : Int) then (if (rd x7 x9) > (rd x7 (wrap64 (x9 - 1))) then (some false) else (stepladderlaw21_VelvetLinks.l0 k x0 x1 x7 x8 (wrap64 (x9 + 1)))) else (none)) else (none)) else (stepladderlaw21_VelvetLinks.l0 k x0 x1 x7 x8 (wrap64 (x9 + 1))))) else (none)) else (some false)) else (none)) else (none)))) else (none)) else (if 0 ≤ x1 then (if x1 < (x0.length : Int) then ((stepladderref12_Ints.f k x7 ((rd_T36 x0 x1).f2)).bind fun t342 => ((velvet_Thorny.f k x0).bind fun t343 => (stepladderlaw21_VelvetLinks.l1 k x0 x1 x8 t342 t343 false 0))) else (none)) else (none))
def stepladderlaw21_VelvetLinks.l1 : Nat → List (S36) → Int → List Bool → Bool → List Int → Bool → Int → Option (Bool)
  | 0, _, _, _, _, _, _, _ => none
  | k + 1, x0, x1, x8, x10, x11, x12, x13 => if x13 < (x11.length : Int) then (if x12 = true then (stepladderlaw21_VelvetLinks.l1 k x0 x1 x8 x10 x11 true (wrap64 (x13 + 1))) else (if 0 ≤ x13 then (stepladderlaw21_VelvetLinks.l1 k x0 x1 x8 x10 x11 ((rd x11 x13) == x1) (wrap64 (x13 + 1))) else (none))) else (if 0 ≤ x1 then (if x1 < (x8.length : Int) then (if x1 < (x0.length : Int) then (if (rd_T36 x0 x1).f0 = true then (if ((rdOf false x8 x1) == x10) = true then (some (x12 == (!x10))) else (some false)) else (if ((rdOf false x8 x1) == false) = true then (some (x12 == false)) else (some false))) else (none)) else (none)) else (none))
end
def stepladderlaw21_VelvetLinks.f (k : Nat) (l0 : List (S36)) (a1 : Int) : Option (Bool) := (stepladderlaw21_awake.f k).bind fun t323 => ((stepladderlaw21_few.f k l0).bind fun t324 => (if t323 = true then (if t324 = true then (if a1 < 1 then (stepladderlaw21_VelvetLinks.j0 k l0 a1 t323 true) else (if a1 ≥ (l0.length : Int) then (stepladderlaw21_VelvetLinks.j0 k l0 a1 t323 true) else ((velvet_May.f k l0).bind fun t325 => (stepladderlaw21_VelvetLinks.j0 k l0 a1 t323 (!t325))))) else (stepladderlaw21_VelvetLinks.j0 k l0 a1 t323 true)) else (stepladderlaw21_VelvetLinks.j0 k l0 a1 t323 true)))
theorem stepladderlaw21_VelvetLinks.mono_l : ∀ k, (∀ y0 y1 y2 y3, LeO (stepladderlaw21_VelvetLinks.j0 k y0 y1 y2 y3) (stepladderlaw21_VelvetLinks.j0 (k + 1) y0 y1 y2 y3)) ∧ (∀ y0 y1 y2 y3 y4, LeO (stepladderlaw21_VelvetLinks.j1 k y0 y1 y2 y3 y4) (stepladderlaw21_VelvetLinks.j1 (k + 1) y0 y1 y2 y3 y4)) ∧ (∀ y0 y1 y2 y3 y4, LeO (stepladderlaw21_VelvetLinks.l0 k y0 y1 y2 y3 y4) (stepladderlaw21_VelvetLinks.l0 (k + 1) y0 y1 y2 y3 y4)) ∧ (∀ y0 y1 y2 y3 y4 y5 y6, LeO (stepladderlaw21_VelvetLinks.l1 k y0 y1 y2 y3 y4 y5 y6) (stepladderlaw21_VelvetLinks.l1 (k + 1) y0 y1 y2 y3 y4 y5 y6))
  | 0 => ⟨fun _ _ _ _ r h => by simp [stepladderlaw21_VelvetLinks.j0] at h, fun _ _ _ _ _ r h => by simp [stepladderlaw21_VelvetLinks.j1] at h, fun _ _ _ _ _ r h => by simp [stepladderlaw21_VelvetLinks.l0] at h, fun _ _ _ _ _ _ _ r h => by simp [stepladderlaw21_VelvetLinks.l1] at h⟩
  | k + 1 => by
    obtain ⟨ih0, ih1, ih2, ih3⟩ := stepladderlaw21_VelvetLinks.mono_l k
    refine ⟨?_, ?_, ?_, ?_⟩
    · intro y0 y1 y2 y3
      unfold stepladderlaw21_VelvetLinks.j0
      repeat' first
      | (with_reducible exact ih0 _ _ _ _)
      | (with_reducible exact ih1 _ _ _ _ _)
      | (with_reducible exact ih2 _ _ _ _ _)
      | (with_reducible exact ih3 _ _ _ _ _ _ _)
      | (with_reducible exact stepladderlaw21_awake.mono _)
      | (with_reducible exact stepladderlaw21_few.mono _ _)
      | (with_reducible exact stepladderref12_Ints.mono _ _ _)
      | (with_reducible exact velvet_May.mono _ _)
      | (with_reducible exact velvet_Thorny.mono _ _)
      | (with_reducible exact LeO.refl _)
      | (with_reducible exact LeO.none _)
      | (with_reducible refine LeO.ite ?_ ?_)
      | (with_reducible refine LeO.bind ?_ (fun _ => ?_))
      | exact ih0 _ _ _ _
      | exact ih1 _ _ _ _ _
      | exact ih2 _ _ _ _ _
      | exact ih3 _ _ _ _ _ _ _
      | exact stepladderlaw21_awake.mono _
      | exact stepladderlaw21_few.mono _ _
      | exact stepladderref12_Ints.mono _ _ _
      | exact velvet_May.mono _ _
      | exact velvet_Thorny.mono _ _
      | exact LeO.none _
      | refine LeO.ite ?_ ?_
      | refine LeO.bind ?_ (fun _ => ?_)
    · intro y0 y1 y2 y3 y4
      unfold stepladderlaw21_VelvetLinks.j1
      repeat' first
      | (with_reducible exact ih0 _ _ _ _)
      | (with_reducible exact ih1 _ _ _ _ _)
      | (with_reducible exact ih2 _ _ _ _ _)
      | (with_reducible exact ih3 _ _ _ _ _ _ _)
      | (with_reducible exact stepladderlaw21_awake.mono _)
      | (with_reducible exact stepladderlaw21_few.mono _ _)
      | (with_reducible exact stepladderref12_Ints.mono _ _ _)
      | (with_reducible exact velvet_May.mono _ _)
      | (with_reducible exact velvet_Thorny.mono _ _)
      | (with_reducible exact LeO.refl _)
      | (with_reducible exact LeO.none _)
      | (with_reducible refine LeO.ite ?_ ?_)
      | (with_reducible refine LeO.bind ?_ (fun _ => ?_))
      | exact ih0 _ _ _ _
      | exact ih1 _ _ _ _ _
      | exact ih2 _ _ _ _ _
      | exact ih3 _ _ _ _ _ _ _
      | exact stepladderlaw21_awake.mono _
      | exact stepladderlaw21_few.mono _ _
      | exact stepladderref12_Ints.mono _ _ _
      | exact velvet_May.mono _ _
      | exact velvet_Thorny.mono _ _
      | exact LeO.none _
      | refine LeO.ite ?_ ?_
      | refine LeO.bind ?_ (fun _ => ?_)
    · intro y0 y1 y2 y3 y4
      unfold stepladderlaw21_VelvetLinks.l0
      repeat' first
      | (with_reducible exact ih0 _ _ _ _)
      | (with_reducible exact ih1 _ _ _ _ _)
      | (with_reducible exact ih2 _ _ _ _ _)
      | (with_reducible exact ih3 _ _ _ _ _ _ _)
      | (with_reducible exact stepladderlaw21_awake.mono _)
      | (with_reducible exact stepladderlaw21_few.mono _ _)
      | (with_reducible exact stepladderref12_Ints.mono _ _ _)
      | (with_reducible exact velvet_May.mono _ _)
      | (with_reducible exact velvet_Thorny.mono _ _)
      | (with_reducible exact LeO.refl _)
      | (with_reducible exact LeO.none _)
      | (with_reducible refine LeO.ite ?_ ?_)
      | (with_reducible refine LeO.bind ?_ (fun _ => ?_))
      | exact ih0 _ _ _ _
      | exact ih1 _ _ _ _ _
      | exact ih2 _ _ _ _ _
      | exact ih3 _ _ _ _ _ _ _
      | exact stepladderlaw21_awake.mono _
      | exact stepladderlaw21_few.mono _ _
      | exact stepladderref12_Ints.mono _ _ _
      | exact velvet_May.mono _ _
      | exact velvet_Thorny.mono _ _
      | exact LeO.none _
      | refine LeO.ite ?_ ?_
      | refine LeO.bind ?_ (fun _ => ?_)
    · intro y0 y1 y2 y3 y4 y5 y6
      unfold stepladderlaw21_VelvetLinks.l1
      repeat' first
      | (with_reducible exact ih0 _ _ _ _)
      | (with_reducible exact ih1 _ _ _ _ _)
      | (with_reducible exact ih2 _ _ _ _ _)
      | (with_reducible exact ih3 _ _ _ _ _ _ _)
      | (with_reducible exact stepladderlaw21_awake.mono _)
      | (with_reducible exact stepladderlaw21_few.mono _ _)
      | (with_reducible exact stepladderref12_Ints.mono _ _ _)
      | (with_reducible exact velvet_May.mono _ _)
      | (with_reducible exact velvet_Thorny.mono _ _)
      | (with_reducible exact LeO.refl _)
      | (with_reducible exact LeO.none _)
      | (with_reducible refine LeO.ite ?_ ?_)
      | (with_reducible refine LeO.bind ?_ (fun _ => ?_))
      | exact ih0 _ _ _ _
      | exact ih1 _ _ _ _ _
      | exact ih2 _ _ _ _ _
      | exact ih3 _ _ _ _ _ _ _
      | exact stepladderlaw21_awake.mono _
      | exact stepladderlaw21_few.mono _ _
      | exact stepladderref12_Ints.mono _ _ _
      | exact velvet_May.mono _ _
      | exact velvet_Thorny.mono _ _
      | exact LeO.none _
      | refine LeO.ite ?_ ?_
      | refine LeO.bind ?_ (fun _ => ?_)
theorem stepladderlaw21_VelvetLinks.mono : ∀ a0 a1 k, LeO (stepladderlaw21_VelvetLinks.f k a0 a1) (stepladderlaw21_VelvetLinks.f (k + 1) a0 a1) := by
  intro a0 a1 k
  obtain ⟨ih0, ih1, ih2, ih3⟩ := stepladderlaw21_VelvetLinks.mono_l k
  unfold stepladderlaw21_VelvetLinks.f
  repeat' first
      | (with_reducible exact ih0 _ _ _ _)
      | (with_reducible exact ih1 _ _ _ _ _)
      | (with_reducible exact ih2 _ _ _ _ _)
      | (with_reducible exact ih3 _ _ _ _ _ _ _)
      | (with_reducible exact stepladderlaw21_awake.mono _)
      | (with_reducible exact stepladderlaw21_few.mono _ _)
      | (with_reducible exact stepladderref12_Ints.mono _ _ _)
      | (with_reducible exact velvet_May.mono _ _)
      | (with_reducible exact velvet_Thorny.mono _ _)
      | (with_reducible exact LeO.refl _)
      | (with_reducible exact LeO.none _)
      | (with_reducible refine LeO.ite ?_ ?_)
      | (with_reducible refine LeO.bind ?_ (fun _ => ?_))
      | exact ih0 _ _ _ _
      | exact ih1 _ _ _ _ _
      | exact ih2 _ _ _ _ _
      | exact ih3 _ _ _ _ _ _ _
      | exact stepladderlaw21_awake.mono _
      | exact stepladderlaw21_few.mono _ _
      | exact stepladderref12_Ints.mono _ _ _
      | exact velvet_May.mono _ _
      | exact velvet_Thorny.mono _ _
      | exact LeO.none _
      | refine LeO.ite ?_ ?_
      | refine LeO.bind ?_ (fun _ => ?_)
set_option maxHeartbeats 8000000 in
set_option maxRecDepth 100000 in
theorem stepladderlaw21_VelvetLinks.calls (k : Nat) (A0 : Option Addr) (c0 : Nat) (l0 : List (S36)) (a1 : Int) (r : Bool) (w : World) (hr0 : Kd.C k36 w A0 l0.length l0) (hc0 : l0.length ≤ c0) (h : stepladderlaw21_VelvetLinks.f k l0 a1 = some r) :
    Calls Try.prog 7 #[.slice A0 l0.length c0, .int .i64 a1] w fun e w' => e = .returned (.bool r) ∧ Below w.heap.size w w' := by
  have HR0 := Aside0.mk hr0
  have HC0 := Aside0.mk hc0
  clear hr0 hc0
  have HB := Aside0.mk (Below.refl w.heap.size w)
  have H : ((stepladderlaw21_awake.f k).bind fun t323 => ((stepladderlaw21_few.f k l0).bind fun t324 => (if t323 = true then (if t324 = true then (if a1 < 1 then (stepladderlaw21_VelvetLinks.j0 k l0 a1 t323 true) else (if a1 ≥ (l0.length : Int) then (stepladderlaw21_VelvetLinks.j0 k l0 a1 t323 true) else ((velvet_May.f k l0).bind fun t325 => (stepladderlaw21_VelvetLinks.j0 k l0 a1 t323 (!t325))))) else (stepladderlaw21_VelvetLinks.j0 k l0 a1 t323 true)) else (stepladderlaw21_VelvetLinks.j0 k l0 a1 t323 true)))) = some r := h
  clear h
  replace H := Option.bind_eq_some_iff.mp H
  obtain ⟨t323, A30, H⟩ := H
  replace H : ((stepladderlaw21_few.f k l0).bind fun t324 => (if t323 = true then (if t324 = true then (if a1 < 1 then (stepladderlaw21_VelvetLinks.j0 k l0 a1 t323 true) else (if a1 ≥ (l0.length : Int) then (stepladderlaw21_VelvetLinks.j0 k l0 a1 t323 true) else ((velvet_May.f k l0).bind fun t325 => (stepladderlaw21_VelvetLinks.j0 k l0 a1 t323 (!t325))))) else (stepladderlaw21_VelvetLinks.j0 k l0 a1 t323 true)) else (stepladderlaw21_VelvetLinks.j0 k l0 a1 t323 true))) = some r := H
  have A3 := Aside0.mk A30
  clear A30
  replace H := Option.bind_eq_some_iff.mp H
  obtain ⟨t324, A40, H⟩ := H
  replace H : (if t323 = true then (if t324 = true then (if a1 < 1 then (stepladderlaw21_VelvetLinks.j0 k l0 a1 t323 true) else (if a1 ≥ (l0.length : Int) then (stepladderlaw21_VelvetLinks.j0 k l0 a1 t323 true) else ((velvet_May.f k l0).bind fun t325 => (stepladderlaw21_VelvetLinks.j0 k l0 a1 t323 (!t325))))) else (stepladderlaw21_VelvetLinks.j0 k l0 a1 t323 true)) else (stepladderlaw21_VelvetLinks.j0 k l0 a1 t323 true)) = some r := H
  have A4 := Aside0.mk A40
  clear A40
  have HC5 := Aside0.mk H
  clear H
  go_enter Try.func7, Try.ntmps7
  go_upto_region 3 with (first | (go_at_call 10; (with_reducible refine (stepladderlaw21_awake.calls k  t323 _ A3.out).mono ?_); rintro e w6 ⟨rfl, hb⟩; have n0_ := Aside0.mk (below_step (by repeat (first | (with_reducible first | exact HB.out | apply below_alloc | apply pw_below_drewN | apply below_drew1) | exact HB.out)) hb); clear HB; have HB := n0_; clear n0_; (try clear hb); (try clear hb2); (try clear hk); (try clear hi)) | (go_at_call 11; (with_reducible refine (stepladderlaw21_few.calls k _ _ l0 t324 _ ?side1 ?side2 A4.out).mono ?_); (case side1 => repeat (first | exact (Kd.C_below HR0.out HB.out) | (with_reducible refine Kd.C_alloc ?_ _) | (with_reducible refine Kd.C_drewN ?_ _) | (with_reducible refine Kd.C_drew ?_))); (case side2 => exact HC0.out); rintro e w' ⟨rfl, ⟨nd, rfl⟩⟩; (try first | exact ⟨rfl, _, World.drewN_drewN _ _ _⟩ | exact ⟨rfl, _, Eq.trans (World.drewN_drewN _ _ _) (congrArg (World.drewN _) (Nat.add_assoc _ _ _))⟩)))
  repeat (go_quiet (first | (go_at_call 10; (with_reducible refine (stepladderlaw21_awake.calls k  t323 _ A3.out).mono ?_); rintro e w6 ⟨rfl, hb⟩; have n0_ := Aside0.mk (below_step (by repeat (first | (with_reducible first | exact HB.out | apply below_alloc | apply pw_below_drewN | apply below_drew1) | exact HB.out)) hb); clear HB; have HB := n0_; clear n0_; (try clear hb); (try clear hb2); (try clear hk); (try clear hi)) | (go_at_call 11; (with_reducible refine (stepladderlaw21_few.calls k _ _ l0 t324 _ ?side1 ?side2 A4.out).mono ?_); (case side1 => repeat (first | exact (Kd.C_below HR0.out HB.out) | (with_reducible refine Kd.C_alloc ?_ _) | (with_reducible refine Kd.C_drewN ?_ _) | (with_reducible refine Kd.C_drew ?_))); (case side2 => exact HC0.out); rintro e w' ⟨rfl, ⟨nd, rfl⟩⟩; (try first | exact ⟨rfl, _, World.drewN_drewN _ _ _⟩ | exact ⟨rfl, _, Eq.trans (World.drewN_drewN _ _ _) (congrArg (World.drewN _) (Nat.add_assoc _ _ _))⟩))); go_upto_region 3 with (first | (go_at_call 10; (with_reducible refine (stepladderlaw21_awake.calls k  t323 _ A3.out).mono ?_); rintro e w6 ⟨rfl, hb⟩; have n0_ := Aside0.mk (below_step (by repeat (first | (with_reducible first | exact HB.out | apply below_alloc | apply pw_below_drewN | apply below_drew1) | exact HB.out)) hb); clear HB; have HB := n0_; clear n0_; (try clear hb); (try clear hb2); (try clear hk); (try clear hi)) | (go_at_call 11; (with_reducible refine (stepladderlaw21_few.calls k _ _ l0 t324 _ ?side1 ?side2 A4.out).mono ?_); (case side1 => repeat (first | exact (Kd.C_below HR0.out HB.out) | (with_reducible refine Kd.C_alloc ?_ _) | (with_reducible refine Kd.C_drewN ?_ _) | (with_reducible refine Kd.C_drew ?_))); (case side2 => exact HC0.out); rintro e w' ⟨rfl, ⟨nd, rfl⟩⟩; (try first | exact ⟨rfl, _, World.drewN_drewN _ _ _⟩ | exact ⟨rfl, _, Eq.trans (World.drewN_drewN _ _ _) (congrArg (World.drewN _) (Nat.add_assoc _ _ _))⟩))))
  (try simp only [Act.put, List.setIfInBounds_toArray, List.set_cons_zero, List.set_cons_succ])
  go_cut [37] (fun v37 wc => ∃ (kq : Nat) (x37_4 : Bool), v37 = .bool x37_4 ∧ Aside0 (stepladderlaw21_VelvetLinks.j0 kq l0 a1 t323 x37_4 = some r) ∧ Aside0 (kq ≤ k) ∧ Aside0 (Below w.heap.size w wc))
  case first =>
    have H := HC5.out
    clear HC5
    by_cases c7 : t323 = true
    · subst c7
      have H1 : (if t324 = true then (if a1 < 1 then (stepladderlaw21_VelvetLinks.j0 k l0 a1 true true) else (if a1 ≥ (l0.length : Int) then (stepladderlaw21_VelvetLinks.j0 k l0 a1 true true) else ((velvet_May.f k l0).bind fun t325 => (stepladderlaw21_VelvetLinks.j0 k l0 a1 true (!t325))))) else (stepladderlaw21_VelvetLinks.j0 k l0 a1 true true)) = some r := by rw [if_pos rfl] at H; exact H
      clear H
      have H := H1
      clear H1
      by_cases c8 : t324 = true
      · subst c8
        have H1 : (if a1 < 1 then (stepladderlaw21_VelvetLinks.j0 k l0 a1 true true) else (if a1 ≥ (l0.length : Int) then (stepladderlaw21_VelvetLinks.j0 k l0 a1 true true) else ((velvet_May.f k l0).bind fun t325 => (stepladderlaw21_VelvetLinks.j0 k l0 a1 true (!t325))))) = some r := by rw [if_pos rfl] at H; exact H
        clear H
        have H := H1
        clear H1
        by_cases c9 : a1 < 1
        · rw [if_pos c9] at H
          have c9b0 : decide (a1 < 1) = true := decide_eq_true c9
          clear c9
          (first | rw [c9b0] | (simp only [i64_w, i32_w]; rw [c9b0]) | skip)
          have H' := Aside0.mk H
          clear H
          go_wp2
          repeat (go_quiet (fail); try go_wp2)
          go_meet
          case rel => exact ⟨_, (true), (by first | rfl | (simp; done) | (simp [*]; done)), H', ⟨by first | omega | exact Nat.le_refl _⟩, ⟨by repeat (first | (with_reducible first | exact HB.out | apply below_alloc | apply pw_below_drewN | apply below_drew1) | exact HB.out)⟩⟩
        · rw [if_neg c9] at H
          have c9b0 : decide (a1 < 1) = false := decide_eq_false c9
          clear c9
          (first | rw [c9b0] | (simp only [i64_w, i32_w]; rw [c9b0]) | skip)
          by_cases c10 : a1 ≥ (l0.length : Int)
          · rw [if_pos c10] at H
            have c10b0 : decide ((l0.length : Int) ≤ a1) = true := decide_eq_true c10
            clear c10
            have H' := Aside0.mk H
            clear H
            go_wp2
            repeat (go_quiet (fail); try go_wp2)
            go_meet
            case rel => exact ⟨_, (true), (by first | rfl | (simp; done) | (simp [*]; done)), H', ⟨by first | omega | exact Nat.le_refl _⟩, ⟨by repeat (first | (with_reducible first | exact HB.out | apply below_alloc | apply pw_below_drewN | apply below_drew1) | exact HB.out)⟩⟩
          · rw [if_neg c10] at H
            have c10b0 : decide ((l0.length : Int) ≤ a1) = false := decide_eq_false c10
            clear c10
            replace H := Option.bind_eq_some_iff.mp H
            obtain ⟨t325, A110, H⟩ := H
            replace H : (stepladderlaw21_VelvetLinks.j0 k l0 a1 true (!t325)) = some r := H
            have A11 := Aside0.mk A110
            clear A110
            have H' := Aside0.mk H
            clear H
            go_wp2_with (first | (go_at_call 23; (with_reducible refine (velvet_May.calls k _ _ l0 t325 _ ?side1 ?side2 A11.out).mono ?_); (case side1 => repeat (first | exact (Kd.C_below HR0.out HB.out) | (with_reducible refine Kd.C_alloc ?_ _) | (with_reducible refine Kd.C_drewN ?_ _) | (with_reducible refine Kd.C_drew ?_))); (case side2 => exact HC0.out); rintro e w12 ⟨rfl, hb⟩; have n0_ := Aside0.mk (below_step (by repeat (first | (with_reducible first | exact HB.out | apply below_alloc | apply pw_below_drewN | apply below_drew1) | exact HB.out)) hb); clear HB; have HB := n0_; clear n0_; (try clear hb); (try clear hb2); (try clear hk); (try clear hi)))
            repeat (go_quiet (first | (go_at_call 23; (with_reducible refine (velvet_May.calls k _ _ l0 t325 _ ?side1 ?side2 A11.out).mono ?_); (case side1 => repeat (first | exact (Kd.C_below HR0.out HB.out) | (with_reducible refine Kd.C_alloc ?_ _) | (with_reducible refine Kd.C_drewN ?_ _) | (with_reducible refine Kd.C_drew ?_))); (case side2 => exact HC0.out); rintro e w12 ⟨rfl, hb⟩; have n0_ := Aside0.mk (below_step (by repeat (first | (with_reducible first | exact HB.out | apply below_alloc | apply pw_below_drewN | apply below_drew1) | exact HB.out)) hb); clear HB; have HB := n0_; clear n0_; (try clear hb); (try clear hb2); (try clear hk); (try clear hi))); try go_wp2_with (first | (go_at_call 23; (with_reducible refine (velvet_May.calls k _ _ l0 t325 _ ?side1 ?side2 A11.out).mono ?_); (case side1 => repeat (first | exact (Kd.C_below HR0.out HB.out) | (with_reducible refine Kd.C_alloc ?_ _) | (with_reducible refine Kd.C_drewN ?_ _) | (with_reducible refine Kd.C_drew ?_))); (case side2 => exact HC0.out); rintro e w12 ⟨rfl, hb⟩; have n0_ := Aside0.mk (below_step (by repeat (first | (with_reducible first | exact HB.out | apply below_alloc | apply pw_below_drewN | apply below_drew1) | exact HB.out)) hb); clear HB; have HB := n0_; clear n0_; (try clear hb); (try clear hb2); (try clear hk); (try clear hi))))
            go_meet
            case rel => exact ⟨_, (!t325), (by first | rfl | (simp; done) | (simp [*]; done)), H', ⟨by first | omega | exact Nat.le_refl _⟩, ⟨by repeat (first | (with_reducible first | exact HB.out | apply below_alloc | apply pw_below_drewN | apply below_drew1) | exact HB.out)⟩⟩
      · replace c8 := Bool.eq_false_iff.mpr c8
        subst c8
        have H1 : (stepladderlaw21_VelvetLinks.j0 k l0 a1 true true) = some r := by rw [if_neg (show ¬ (false = true) by decide)] at H; exact H
        clear H
        have H := H1
        clear H1
        have H' := Aside0.mk H
        clear H
        go_wp2
        repeat (go_quiet (fail); try go_wp2)
        go_meet
        case rel => exact ⟨_, (true), (by first | rfl | (simp; done) | (simp [*]; done)), H', ⟨by first | omega | exact Nat.le_refl _⟩, ⟨by repeat (first | (with_reducible first | exact HB.out | apply below_alloc | apply pw_below_drewN | apply below_drew1) | exact HB.out)⟩⟩
    · replace c7 := Bool.eq_false_iff.mpr c7
      subst c7
      have H1 : (stepladderlaw21_VelvetLinks.j0 k l0 a1 false true) = some r := by rw [if_neg (show ¬ (false = true) by decide)] at H; exact H
      clear H
      have H := H1
      clear H1
      have H' := Aside0.mk H
      clear H
      go_wp2
      repeat (go_quiet (fail); try go_wp2)
      go_meet
      case rel => exact ⟨_, (true), (by first | rfl | (simp; done) | (simp [*]; done)), H', ⟨by first | omega | exact Nat.le_refl _⟩, ⟨by repeat (first | (with_reducible first | exact HB.out | apply below_alloc | apply pw_below_drewN | apply below_drew1) | exact HB.out)⟩⟩
  case rest =>
    clear HC5
    try clear c1
    try clear p2
    try clear c7
    try clear c8
    try clear c9
    try clear c9b0
    try clear c10
    try clear c10b0
    obtain ⟨kq, x37_4, rfl, HA, HJ4, HB⟩ := hcut
    cases kq with
    | zero => exact absurd HA.out (by simp [stepladderlaw21_VelvetLinks.j0])
    | succ kj4 =>
      have H := HA.out
      clear HA
      simp only [stepladderlaw21_VelvetLinks.j0] at H
      by_cases c13 : x37_4 = true
      · subst c13
        have H1 : (some t323) = some r := by rw [if_pos rfl] at H; exact H
        clear H
        have H := H1
        clear H1
        obtain rfl := Option.some.inj H
        go_wp2
        repeat (go_quiet (fail); try go_wp2)
        go_ret
        exact ⟨by first | rfl | (simp [errW_none, errW_some] <;> rfl) | (simp [*, errW_none, errW_some] <;> rfl), by repeat (first | (with_reducible first | exact HB.out | apply below_alloc | apply pw_below_drewN | apply below_drew1) | exact HB.out)⟩
      · replace c13 := Bool.eq_false_iff.mpr c13
        subst c13
        have H1 : ((velvet_Links.f l0 a1).bind fun t326 => ((velvet_Smooth.f l0).bind fun t329 => (if (t326.length : Int) = 0 then (stepladderlaw21_VelvetLinks.j1 kj4 l0 a1 t326 t329 true) else (if 0 < (t326.length : Int) then (if (rd t326 0) = 0 then (stepladderlaw21_VelvetLinks.j1 kj4 l0 a1 t326 t329 ((t329.length : Int) != (l0.length : Int))) else (stepladderlaw21_VelvetLinks.j1 kj4 l0 a1 t326 t329 true)) else (none))))) = some r := by rw [if_neg (show ¬ (false = true) by decide)] at H; exact H
        clear H
        have H := H1
        clear H1
        replace H := Option.bind_eq_some_iff.mp H
        obtain ⟨t326, A140, H⟩ := H
        replace H : ((velvet_Smooth.f l0).bind fun t329 => (if (t326.length : Int) = 0 then (stepladderlaw21_VelvetLinks.j1 kj4 l0 a1 t326 t329 true) else (if 0 < (t326.length : Int) then (if (rd t326 0) = 0 then (stepladderlaw21_VelvetLinks.j1 kj4 l0 a1 t326 t329 ((t329.length : Int) != (l0.length : Int))) else (stepladderlaw21_VelvetLinks.j1 kj4 l0 a1 t326 t329 true)) else (none)))) = some r := H
        have A14 := Aside0.mk A140
        clear A140
        replace H := Option.bind_eq_some_iff.mp H
        obtain ⟨t329, A150, H⟩ := H
        replace H : (if (t326.length : Int) = 0 then (stepladderlaw21_VelvetLinks.j1 kj4 l0 a1 t326 t329 true) else (if 0 < (t326.length : Int) then (if (rd t326 0) = 0 then (stepladderlaw21_VelvetLinks.j1 kj4 l0 a1 t326 t329 ((t329.length : Int) != (l0.length : Int))) else (stepladderlaw21_VelvetLinks.j1 kj4 l0 a1 t326 t329 true)) else (none))) = some r := H
        have A15 := Aside0.mk A150
        clear A150
        have HC16 := Aside0.mk H
        clear H
        go_upto_region 7 with (first | (go_at_call 13; (with_reducible refine (velvet_Links.calls _ _ l0 a1 t326 _ ?side1 ?side2 A14.out).mono ?_); (case side1 => repeat (first | exact (Kd.C_below HR0.out HB.out) | (with_reducible refine Kd.C_alloc ?_ _) | (with_reducible refine Kd.C_drewN ?_ _) | (with_reducible refine Kd.C_drew ?_))); (case side2 => exact HC0.out); rintro e w17 ⟨v327, rfl, ho0, hb⟩; have n0_ := Aside0.mk (Kd.R_lower ho0 (below_size (by repeat (first | (with_reducible first | exact HB.out | apply below_alloc | apply pw_below_drewN | apply below_drew1) | exact HB.out)))); have n1_ := Aside0.mk (below_step (by repeat (first | (with_reducible first | exact HB.out | apply below_alloc | apply pw_below_drewN | apply below_drew1) | exact HB.out)) hb); clear HB; have HO328 := n0_; have HB := n1_; clear n0_ n1_; (try clear hb); (try clear hb2); (try clear hk); (try clear hi); (try clear ho0)) | (go_at_call 16; (with_reducible refine (velvet_Smooth.calls _ _ l0 t329 _ ?side1 ?side2 A15.out).mono ?_); (case side1 => repeat (first | exact (Kd.C_below HR0.out HB.out) | (with_reducible refine Kd.C_alloc ?_ _) | (with_reducible refine Kd.C_drewN ?_ _) | (with_reducible refine Kd.C_drew ?_))); (case side2 => exact HC0.out); rintro e w18 ⟨v330, rfl, ho0, hb⟩; have n0_ := Aside0.mk (Kd.R_below (by (with_reducible repeat (first | apply Kd.R_alloc | apply Kd.R_drewN | apply Kd.R_drew)); exact HO328.out) hb); have n1_ := Aside0.mk (Kd.R_lower ho0 (below_size (by repeat (first | (with_reducible first | exact HB.out | apply below_alloc | apply pw_below_drewN | apply below_drew1) | exact HB.out)))); have n2_ := Aside0.mk (below_step (by repeat (first | (with_reducible first | exact HB.out | apply below_alloc | apply pw_below_drewN | apply below_drew1) | exact HB.out)) hb); clear HO328; clear HB; have HO328 := n0_; have HO331 := n1_; have HB := n2_; clear n0_ n1_ n2_; (try clear hb); (try clear hb2); (try clear hk); (try clear hi); (try clear ho0)))
        repeat (go_quiet (first | (go_at_call 13; (with_reducible refine (velvet_Links.calls _ _ l0 a1 t326 _ ?side1 ?side2 A14.out).mono ?_); (case side1 => repeat (first | exact (Kd.C_below HR0.out HB.out) | (with_reducible refine Kd.C_alloc ?_ _) | (with_reducible refine Kd.C_drewN ?_ _) | (with_reducible refine Kd.C_drew ?_))); (case side2 => exact HC0.out); rintro e w17 ⟨v327, rfl, ho0, hb⟩; have n0_ := Aside0.mk (Kd.R_lower ho0 (below_size (by repeat (first | (with_reducible first | exact HB.out | apply below_alloc | apply pw_below_drewN | apply below_drew1) | exact HB.out)))); have n1_ := Aside0.mk (below_step (by repeat (first | (with_reducible first | exact HB.out | apply below_alloc | apply pw_below_drewN | apply below_drew1) | exact HB.out)) hb); clear HB; have HO328 := n0_; have HB := n1_; clear n0_ n1_; (try clear hb); (try clear hb2); (try clear hk); (try clear hi); (try clear ho0)) | (go_at_call 16; (with_reducible refine (velvet_Smooth.calls _ _ l0 t329 _ ?side1 ?side2 A15.out).mono ?_); (case side1 => repeat (first | exact (Kd.C_below HR0.out HB.out) | (with_reducible refine Kd.C_alloc ?_ _) | (with_reducible refine Kd.C_drewN ?_ _) | (with_reducible refine Kd.C_drew ?_))); (case side2 => exact HC0.out); rintro e w18 ⟨v330, rfl, ho0, hb⟩; have n0_ := Aside0.mk (Kd.R_below (by (with_reducible repeat (first | apply Kd.R_alloc | apply Kd.R_drewN | apply Kd.R_drew)); exact HO328.out) hb); have n1_ := Aside0.mk (Kd.R_lower ho0 (below_size (by repeat (first | (with_reducible first | exact HB.out | apply below_alloc | apply pw_below_drewN | apply below_drew1) | exact HB.out)))); have n2_ := Aside0.mk (below_step (by repeat (first | (with_reducible first | exact HB.out | apply below_alloc | apply pw_below_drewN | apply below_drew1) | exact HB.out)) hb); clear HO328; clear HB; have HO328 := n0_; have HO331 := n1_; have HB := n2_; clear n0_ n1_ n2_; (try clear hb); (try clear hb2); (try clear hk); (try clear hi); (try clear ho0))); go_upto_region 7 with (first | (go_at_call 13; (with_reducible refine (velvet_Links.calls _ _ l0 a1 t326 _ ?side1 ?side2 A14.out).mono ?_); (case side1 => repeat (first | exact (Kd.C_below HR0.out HB.out) | (with_reducible refine Kd.C_alloc ?_ _) | (with_reducible refine Kd.C_drewN ?_ _) | (with_reducible refine Kd.C_drew ?_))); (case side2 => exact HC0.out); rintro e w17 ⟨v327, rfl, ho0, hb⟩; have n0_ := Aside0.mk (Kd.R_lower ho0 (below_size (by repeat (first | (with_reducible first | exact HB.out | apply below_alloc | apply pw_below_drewN | apply below_drew1) | exact HB.out)))); have n1_ := Aside0.mk (below_step (by repeat (first | (with_reducible first | exact HB.out | apply below_alloc | apply pw_below_drewN | apply below_drew1) | exact HB.out)) hb); clear HB; have HO328 := n0_; have HB := n1_; clear n0_ n1_; (try clear hb); (try clear hb2); (try clear hk); (try clear hi); (try clear ho0)) | (go_at_call 16; (with_reducible refine (velvet_Smooth.calls _ _ l0 t329 _ ?side1 ?side2 A15.out).mono ?_); (case side1 => repeat (first | exact (Kd.C_below HR0.out HB.out) | (with_reducible refine Kd.C_alloc ?_ _) | (with_reducible refine Kd.C_drewN ?_ _) | (with_reducible refine Kd.C_drew ?_))); (case side2 => exact HC0.out); rintro e w18 ⟨v330, rfl, ho0, hb⟩; have n0_ := Aside0.mk (Kd.R_below (by (with_reducible repeat (first | apply Kd.R_alloc | apply Kd.R_drewN | apply Kd.R_drew)); exact HO328.out) hb); have n1_ := Aside0.mk (Kd.R_lower ho0 (below_size (by repeat (first | (with_reducible first | exact HB.out | apply below_alloc | apply pw_below_drewN | apply below_drew1) | exact HB.out)))); have n2_ := Aside0.mk (below_step (by repeat (first | (with_reducible first | exact HB.out | apply below_alloc | apply pw_below_drewN | apply below_drew1) | exact HB.out)) hb); clear HO328; clear HB; have HO328 := n0_; have HO331 := n1_; have HB := n2_; clear n0_ n1_ n2_; (try clear hb); (try clear hb2); (try clear hk); (try clear hi); (try clear ho0))))
        (try simp only [Act.put, List.setIfInBounds_toArray, List.set_cons_zero, List.set_cons_succ])
        go_cut [59] (fun v59 wc => ∃ (kq : Nat) (x59_15 : Bool), v59 = .bool x59_15 ∧ Aside0 (stepladderlaw21_VelvetLinks.j1 kq l0 a1 t326 t329 x59_15 = some r) ∧ Aside0 (kq ≤ kj4) ∧ Aside0 (Kd.R (Kd.int .i64) 3 wc w.heap.size (fun _ => True) v327 t326) ∧ Aside0 (Kd.R Kd.bool 4 wc w.heap.size (fun _ => True) v330 t329) ∧ Aside0 (Below w.heap.size w wc))
        case first =>
          have H := HC16.out
          clear HC16
          by_cases c19 : (t326.length : Int) = 0
          · rw [if_pos c19] at H
            have c19b0 : ((t326.length : Int) == 0) = true := beq_iff_eq.mpr c19
            have c19b1 : ((t326.length : Int) != 0) = false := bne_eq_false_iff_eq.mpr c19
            clear c19
            (first | rw [c19b0] | (simp only [i64_w, i32_w]; rw [c19b0]) | skip)
            have H' := Aside0.mk H
            clear H
            obtain ⟨Ao20, co20, eo20⟩ := Kd.R_slice HO328.out
            subst eo20
            go_wp2
            repeat (go_quiet (fail); try go_wp2)
            go_meet
            case rel => exact ⟨_, (true), (by first | rfl | (simp; done) | (simp [*]; done)), H', ⟨by have := HJ4.out; first | omega | exact Nat.le_refl _⟩, ⟨by (with_reducible repeat (first | apply Kd.R_alloc | apply Kd.R_drewN | apply Kd.R_drew)); exact HO328.out⟩, ⟨by (with_reducible repeat (first | apply Kd.R_alloc | apply Kd.R_drewN | apply Kd.R_drew)); exact HO331.out⟩, ⟨by repeat (first | (with_reducible first | exact HB.out | apply below_alloc | apply pw_below_drewN | apply below_drew1) | exact HB.out)⟩⟩
          · rw [if_neg c19] at H
            have c19b0 : ((t326.length : Int) == 0) = false := beq_eq_false_iff_ne.mpr c19
            have c19b1 : ((t326.length : Int) != 0) = true := bne_iff_ne.mpr c19
            have c19b2 : ¬ (t326 = []) := fun h_ => c19 (by rw [h_]; rfl)
            (first | rw [c19b0] | (simp only [i64_w, i32_w]; rw [c19b0]) | skip)
            by_cases c21 : 0 < (t326.length : Int)
            · rw [if_pos c21] at H
              have c21b0 : decide (0 < (t326.length : Int)) = true := decide_eq_true c21
              have c21b1 : decide (0 < t326.length) = true := decide_eq_true (by omega)
              clear c21
              by_cases c22 : (rd t326 0) = 0
              · rw [if_pos c22] at H
                have c22b0 : ((rd t326 0) == 0) = true := beq_iff_eq.mpr c22
                have c22b1 : ((rd t326 0) != 0) = false := bne_eq_false_iff_eq.mpr c22
                clear c22
                have H' := Aside0.mk H
                clear H
                obtain ⟨Ao23, co23, eo23⟩ := Kd.R_slice HO328.out
                subst eo23
                have p332 : 0 ≤ (0 : Int) := (by omega)
                have q332 : 0 < (t326.length : Int) := of_decide_eq_true (by first | (with_reducible assumption) | assumption)
                obtain ⟨ad332, e332, hx332_0⟩ := Kd.at_int (Kd.R_reads' HO328.out).2.2 0 p332 q332
                cases e332
                have qi332 : (0 < t326.length) = True := eq_true (by omega)
                (try rw [show ((0 : Int)).toNat = 0 from rfl] at hx332_0)
                (try rw [Addr.add_zero'] at hx332_0)
                replace p332 := eq_true p332
                replace q332 := eq_true q332
                obtain ⟨Ao24, co24, eo24⟩ := Kd.R_slice HO331.out
                subst eo24
                go_wp2
                repeat (go_quiet (fail); try go_wp2)
                go_meet
                case rel => exact ⟨_, (((t329.length : Int) != (l0.length : Int))), (by first | rfl | (simp; done) | (simp [*]; done)), H', ⟨by have := HJ4.out; first | omega | exact Nat.le_refl _⟩, ⟨by (with_reducible repeat (first | apply Kd.R_alloc | apply Kd.R_drewN | apply Kd.R_drew)); exact HO328.out⟩, ⟨by (with_reducible repeat (first | apply Kd.R_alloc | apply Kd.R_drewN | apply Kd.R_drew)); exact HO331.out⟩, ⟨by repeat (first | (with_reducible first | exact HB.out | apply below_alloc | apply pw_below_drewN | apply below_drew1) | exact HB.out)⟩⟩
              · rw [if_neg c22] at H
                have c22b0 : ((rd t326 0) == 0) = false := beq_eq_false_iff_ne.mpr c22
                have c22b1 : ((rd t326 0) != 0) = true := bne_iff_ne.mpr c22
                have H' := Aside0.mk H
                clear H
                obtain ⟨Ao25, co25, eo25⟩ := Kd.R_slice HO328.out
                subst eo25
                have p332 : 0 ≤ (0 : Int) := (by omega)
                have q332 : 0 < (t326.length : Int) := of_decide_eq_true (by first | (with_reducible assumption) | assumption)
                obtain ⟨ad332, e332, hx332_0⟩ := Kd.at_int (Kd.R_reads' HO328.out).2.2 0 p332 q332
                cases e332
                have qi332 : (0 < t326.length) = True := eq_true (by omega)
                (try rw [show ((0 : Int)).toNat = 0 from rfl] at hx332_0)
                (try rw [Addr.add_zero'] at hx332_0)
                replace p332 := eq_true p332
                replace q332 := eq_true q332
                go_wp2
                repeat (go_quiet (fail); try go_wp2)
                go_meet
                case rel => exact ⟨_, (true), (by first | rfl | (simp; done) | (simp [*]; done)), H', ⟨by have := HJ4.out; first | omega | exact Nat.le_refl _⟩, ⟨by (with_reducible repeat (first | apply Kd.R_alloc | apply Kd.R_drewN | apply Kd.R_drew)); exact HO328.out⟩, ⟨by (with_reducible repeat (first | apply Kd.R_alloc | apply Kd.R_drewN | apply Kd.R_drew)); exact HO331.out⟩, ⟨by repeat (first | (with_reducible first | exact HB.out | apply below_alloc | apply pw_below_drewN | apply below_drew1) | exact HB.out)⟩⟩
            · rw [if_neg c21] at H
              exact absurd H (by simp)
        case rest =>
          clear HC16
          try clear c1
          try clear c2
          try clear p2
          try clear p3
          try clear q3
          try clear hx3
          try clear qi3
          try clear c7
          try clear c8
          try clear c9
          try clear c9b0
          try clear c10
          try clear c10b0
          try clear c13
          try clear c19
          try clear c19b0
          try clear c19b1
          try clear c19b2
          try clear c21
          try clear c21b0
          try clear c21b1
          try clear c22
          try clear c22b0
          try clear c22b1
          try clear hx332_0
          try clear p2
          try clear p332
          try clear q332
          obtain ⟨kq, x59_15, rfl, HA, HJ15, HO_7, HO_8, HB⟩ := hcut
          cases kq with
          | zero => exact absurd HA.out (by simp [stepladderlaw21_VelvetLinks.j1])
          | succ kj15 =>
            have H := HA.out
            clear HA
            simp only [stepladderlaw21_VelvetLinks.j1] at H
            by_cases c26 : x59_15 = true
            · subst c26
              have H1 : (some false) = some r := by rw [if_pos rfl] at H; exact H
              clear H
              have H := H1
              clear H1
              obtain rfl := Option.some.inj H
              go_wp2
              repeat (go_quiet (fail); try go_wp2)
              go_ret
              exact ⟨by first | rfl | (simp [errW_none, errW_some] <;> rfl) | (simp [*, errW_none, errW_some] <;> rfl), by repeat (first | (with_reducible first | exact HB.out | apply below_alloc | apply pw_below_drewN | apply below_drew1) | exact HB.out)⟩
            · replace c26 := Bool.eq_false_iff.mpr c26
              subst c26
              have H1 : (stepladderlaw21_VelvetLinks.l0 kj15 l0 a1 t326 t329 1) = some r := by rw [if_neg (show ¬ (false = true) by decide)] at H; exact H
              clear H
              have H := H1
              clear H1
              have H' := Aside0.mk H
              clear H
              go_wp2
              repeat (go_quiet (fail); try go_wp2)
              go_loopg [9] kj15 (fun kq v9 w' => ∃ (x9_3 : Int), v9 = .int .i64 x9_3 ∧ Aside0 (stepladderlaw21_VelvetLinks.l0 kq l0 a1 t326 t329 x9_3 = some r) ∧ Aside0 (kq ≤ kj15) ∧ Aside0 (Kd.R (Kd.int .i64) 3 w' w.heap.size (fun _ => True) v327 t326) ∧ Aside0 (Kd.R Kd.bool 4 w' w.heap.size (fun _ => True) v330 t329) ∧ Aside0 (Below w.heap.size w w'))
              case atStart => exact ⟨(1), (by first | rfl | (simp; done) | (simp [*]; done)), H', ⟨Nat.le_refl _⟩, ⟨by (with_reducible repeat (first | apply Kd.R_alloc | apply Kd.R_drewN | apply Kd.R_drew)); exact HO_7.out⟩, ⟨by (with_reducible repeat (first | apply Kd.R_alloc | apply Kd.R_drewN | apply Kd.R_drew)); exact HO_8.out⟩, ⟨by repeat (first | (with_reducible first | exact HB.out | apply below_alloc | apply pw_below_drewN | apply below_drew1) | exact HB.out)⟩⟩
              case round =>
                clear H'
                try clear c1
                try clear c2
                try clear p2
                try clear p3
                try clear q3
                try clear hx3
                try clear qi3
                try clear c7
                try clear c8
                try clear c9
                try clear c9b0
                try clear c10
                try clear c10b0
                try clear c13
                try clear c19
                try clear c19b0
                try clear c19b1
                try clear c19b2
                try clear c21
                try clear c21b0
                try clear c21b1
                try clear c22
                try clear c22b0
                try clear c22b1
                try clear c26
                try clear hx332_0
                try clear p2
                try clear p3
                try clear p332
                try clear q3
                try clear q332
                obtain ⟨x9_3, rfl, HA, HK3, HO_7, HO_8, HB⟩ := hrel
                cases gk with
                | zero => exact absurd HA.out (by simp [stepladderlaw21_VelvetLinks.l0])
                | succ k3 =>
                  have H := HA.out
                  clear HA
                  simp only [stepladderlaw21_VelvetLinks.l0] at H
                  by_cases c27 : x9_3 < (t326.length : Int)
                  · rw [if_pos c27] at H
                    have c27b0 : decide (x9_3 < (t326.length : Int)) = true := decide_eq_true c27
                    clear c27
                    by_cases c28 : 0 ≤ x9_3
                    · rw [if_pos c28] at H
                      have c28b0 : decide (0 ≤ x9_3) = true := decide_eq_true c28
                      clear c28
                      by_cases c29 : (rd t326 x9_3) < 1
                      · rw [if_pos c29] at H
                        have c29b0 : decide ((rd t326 x9_3) < 1) = true := decide_eq_true c29
                        clear c29
                        obtain rfl := Option.some.inj H
                        obtain ⟨Ao30, co30, eo30⟩ := Kd.R_slice HO_7.out
                        subst eo30
                        have p333 : 0 ≤ (x9_3 : Int) := of_decide_eq_true (by first | (with_reducible assumption) | assumption)
                        have q333 : x9_3 < (t326.length : Int) := of_decide_eq_true (by first | (with_reducible assumption) | assumption)
                        obtain ⟨ad333, e333, hx333_0⟩ := Kd.at_int (Kd.R_reads' HO_7.out).2.2 x9_3 p333 q333
                        cases e333
                        replace p333 := eq_true p333
                        replace q333 := eq_true q333
                        go_wp2
                        repeat (go_quiet (fail); try go_wp2)
                        go_ret
                        exact ⟨by first | rfl | (simp [errW_none, errW_some] <;> rfl) | (simp [*, errW_none, errW_some] <;> rfl), by repeat (first | (with_reducible first | exact HB.out | apply below_alloc | apply pw_below_drewN | apply below_drew1) | exact HB.out)⟩
                      · rw [if_neg c29] at H
                        have c29b0 : decide ((rd t326 x9_3) < 1) = false := decide_eq_false c29
                        clear c29
                        by_cases c31 : (rd t326 x9_3) ≥ a1
                        · rw [if_pos c31] at H
                          have c31b0 : decide (a1 ≤ (rd t326 x9_3)) = true := decide_eq_true c31
                          clear c31
                          obtain rfl := Option.some.inj H
                          obtain ⟨Ao32, co32, eo32⟩ := Kd.R_slice HO_7.out
                          subst eo32
                          have p333 : 0 ≤ (x9_3 : Int) := of_decide_eq_true (by first | (with_reducible assumption) | assumption)
                          have q333 : x9_3 < (t326.length : Int) := of_decide_eq_true (by first | (with_reducible assumption) | assumption)
                          obtain ⟨ad333, e333, hx333_0⟩ := Kd.at_int (Kd.R_reads' HO_7.out).2.2 x9_3 p333 q333
                          cases e333
                          replace p333 := eq_true p333
                          replace q333 := eq_true q333
                          have p334 : 0 ≤ (x9_3 : Int) := of_decide_eq_true (by first | (with_reducible assumption) | assumption)
                          have q334 : x9_3 < (t326.length : Int) := of_decide_eq_true (by first | (with_reducible assumption) | assumption)
                          obtain ⟨ad334, e334, hx334_0⟩ := Kd.at_int (Kd.R_reads' HO_7.out).2.2 x9_3 p334 q334
                          obtain rfl : ad333 = ad334 := (by injection e334)
                          replace p334 := eq_true p334
                          replace q334 := eq_true q334
                          go_wp2
                          repeat (go_quiet (fail); try go_wp2)
                          go_ret
                          exact ⟨by first | rfl | (simp [errW_none, errW_some] <;> rfl) | (simp [*, errW_none, errW_some] <;> rfl), by repeat (first | (with_reducible first | exact HB.out | apply below_alloc | apply pw_below_drewN | apply below_drew1) | exact HB.out)⟩
                        · rw [if_neg c31] at H
                          have c31b0 : decide (a1 ≤ (rd t326 x9_3)) = false := decide_eq_false c31
                          clear c31
                          by_cases c33 : 0 ≤ (rd t326 x9_3)
                          · rw [if_pos c33] at H
                            have c33b0 : decide (0 ≤ (rd t326 x9_3)) = true := decide_eq_true c33
                            clear c33
                            by_cases c34 : (rd t326 x9_3) < (t329.length : Int)
                            · rw [if_pos c34] at H
                              have c34b0 : decide ((rd t326 x9_3) < (t329.length : Int)) = true := decide_eq_true c34
                              clear c34
                              obtain ⟨bq35, hbq35⟩ : ∃ b_ : Bool, b_ = (rdOf false t329 (rd t326 x9_3)) := ⟨_, rfl⟩
                              replace H : (if (bq35 = true) then (if (rd t326 x9_3) < (l0.length : Int) then (if ((rd_T36 l0 (rd t326 x9_3)).f1) < x9_3 then (some false) else (if x9_3 > 1 then (if 0 ≤ (wrap64 (x9_3 - 1)) then (if (wrap64 (x9_3 - 1)) < (t326.length : Int) then (if (rd t326 x9_3) > (rd t326 (wrap64 (x9_3 - 1))) then (some false) else (stepladderlaw21_VelvetLinks.l0 k3 l0 a1 t326 t329 (wrap64 (x9_3 + 1)))) else (none)) else (none)) else (stepladderlaw21_VelvetLinks.l0 k3 l0 a1 t326 t329 (wrap64 (x9_3 + 1))))) else (none)) else (some false)) = some r := by rw [← hbq35] at H; exact H
                              have Nbq35 := Aside0.mk hbq35
                              clear hbq35
                              by_cases c36 : (bq35 = true)
                              · subst c36
                                have H1 : (if (rd t326 x9_3) < (l0.length : Int) then (if ((rd_T36 l0 (rd t326 x9_3)).f1) < x9_3 then (some false) else (if x9_3 > 1 then (if 0 ≤ (wrap64 (x9_3 - 1)) then (if (wrap64 (x9_3 - 1)) < (t326.length : Int) then (if (rd t326 x9_3) > (rd t326 (wrap64 (x9_3 - 1))) then (some false) else (stepladderlaw21_VelvetLinks.l0 k3 l0 a1 t326 t329 (wrap64 (x9_3 + 1)))) else (none)) else (none)) else (stepladderlaw21_VelvetLinks.l0 k3 l0 a1 t326 t329 (wrap64 (x9_3 + 1))))) else (none)) = some r := by rw [if_pos rfl] at H; exact H
                                clear H
                                have H := H1
                                clear H1
                                by_cases c37 : (rd t326 x9_3) < (l0.length : Int)
                                · rw [if_pos c37] at H
                                  have c37b0 : decide ((rd t326 x9_3) < (l0.length : Int)) = true := decide_eq_true c37
                                  clear c37
                                  by_cases c38 : ((rd_T36 l0 (rd t326 x9_3)).f1) < x9_3
                                  · rw [if_pos c38] at H
                                    have c38b0 : decide (((rd_T36 l0 (rd t326 x9_3)).f1) < x9_3) = true := decide_eq_true c38
                                    clear c38
                                    obtain rfl := Option.some.inj H
                                    obtain ⟨Ao39, co39, eo39⟩ := Kd.R_slice HO_7.out
                                    subst eo39
                                    have p333 : 0 ≤ (x9_3 : Int) := of_decide_eq_true (by first | (with_reducible assumption) | assumption)
                                    have q333 : x9_3 < (t326.length : Int) := of_decide_eq_true (by first | (with_reducible assumption) | assumption)
                                    obtain ⟨ad333, e333, hx333_0⟩ := Kd.at_int (Kd.R_reads' HO_7.out).2.2 x9_3 p333 q333
                                    cases e333
                                    replace p333 := eq_true p333
                                    replace q333 := eq_true q333
                                    have p334 : 0 ≤ (x9_3 : Int) := of_decide_eq_true (by first | (with_reducible assumption) | assumption)
                                    have q334 : x9_3 < (t326.length : Int) := of_decide_eq_true (by first | (with_reducible assumption) | assumption)
                                    obtain ⟨ad334, e334, hx334_0⟩ := Kd.at_int (Kd.R_reads' HO_7.out).2.2 x9_3 p334 q334
                                    obtain rfl : ad333 = ad334 := (by injection e334)
                                    replace p334 := eq_true p334
                                    replace q334 := eq_true q334
                                    have p335 : 0 ≤ (x9_3 : Int) := of_decide_eq_true (by first | (with_reducible assumption) | assumption)
                                    have q335 : x9_3 < (t326.length : Int) := of_decide_eq_true (by first | (with_reducible assumption) | assumption)
                                    obtain ⟨ad335, e335, hx335_0⟩ := Kd.at_int (Kd.R_reads' HO_7.out).2.2 x9_3 p335 q335
                                    obtain rfl : ad333 = ad335 := (by injection e335)
                                    replace p335 := eq_true p335
                                    replace q335 := eq_true q335
                                    obtain ⟨Ao40, co40, eo40⟩ := Kd.R_slice HO_8.out
                                    subst eo40
                                    have p336 : 0 ≤ ((rd t326 x9_3) : Int) := of_decide_eq_true (by first | (with_reducible assumption) | assumption)
                                    have q336 : (rd t326 x9_3) < (t329.length : Int) := of_decide_eq_true (by first | (with_reducible assumption) | assumption)
                                    obtain ⟨ad336, e336, hx336_0⟩ := Kd.at_bool (Kd.R_reads' HO_8.out).2.2 (rd t326 x9_3) p336 q336
                                    (try rw [← Nbq35.out] at hx336_0)
                                    cases e336
                                    replace p336 := eq_true p336
                                    replace q336 := eq_true q336
                                    have p337 : 0 ≤ (x9_3 : Int) := of_decide_eq_true (by first | (with_reducible assumption) | assumption)
                                    have q337 : x9_3 < (t326.length : Int) := of_decide_eq_true (by first | (with_reducible assumption) | assumption)
                                    obtain ⟨ad337, e337, hx337_0⟩ := Kd.at_int (Kd.R_reads' HO_7.out).2.2 x9_3 p337 q337
                                    obtain rfl : ad333 = ad337 := (by injection e337)
                                    replace p337 := eq_true p337
                                    replace q337 := eq_true q337
                                    have p338 : 0 ≤ ((rd t326 x9_3) : Int) := of_decide_eq_true (by first | (with_reducible assumption) | assumption)
                                    have q338 : (rd t326 x9_3) < (l0.length : Int) := of_decide_eq_true (by first | (with_reducible assumption) | assumption)
                                    obtain ⟨ad338, A338_2, c338_2, e338, hx338_0, hx338_1, hx338_2, hl338_2, hi338_2⟩ := at_T36 HR0.out (rd t326 x9_3) p338 q338
                                    (try rw [← Nbq35.out] at hx338_0)
                                    cases e338
                                    replace hx338_0 := (HB.out.cell (World.block_lt_of_cell? w _ hx338_0)).trans hx338_0
                                    replace hx338_1 := (HB.out.cell (World.block_lt_of_cell? w _ hx338_1)).trans hx338_1
                                    replace hx338_2 := (HB.out.cell (World.block_lt_of_cell? w _ hx338_2)).trans hx338_2
                                    have HR338_2 := Aside0.mk hi338_2
                                    have HC338_2 := Aside0.mk hl338_2
                                    clear hi338_2 hl338_2
                                    replace p338 := eq_true p338
                                    replace q338 := eq_true q338
                                    go_wp2
                                    repeat (go_quiet (fail); try go_wp2)
                                    go_ret
                                    exact ⟨by first | rfl | (simp [errW_none, errW_some] <;> rfl) | (simp [*, errW_none, errW_some] <;> rfl), by repeat (first | (with_reducible first | exact HB.out | apply below_alloc | apply pw_below_drewN | apply below_drew1) | exact HB.out)⟩
                                  · rw [if_neg c38] at H
                                    have c38b0 : decide (((rd_T36 l0 (rd t326 x9_3)).f1) < x9_3) = false := decide_eq_false c38
                                    clear c38
                                    by_cases c41 : x9_3 > 1
                                    · rw [if_pos c41] at H
                                      have c41b0 : decide (1 < x9_3) = true := decide_eq_true c41
                                      clear c41
                                      obtain ⟨ji42, hji42⟩ : ∃ j_ : Int, (wrap64 (x9_3 - 1)) = j_ := ⟨_, rfl⟩
                                      replace H : (if 0 ≤ (ji42) then (if (ji42) < (t326.length : Int) then (if (rd t326 x9_3) > (rd t326 (ji42)) then (some false) else (stepladderlaw21_VelvetLinks.l0 k3 l0 a1 t326 t329 (wrap64 (x9_3 + 1)))) else (none)) else (none)) = some r := by first | (rw [hji42] at H; exact H) | (simp only [hji42] at H ⊢; exact H)
                                      have hji42w : (IntKind.i64.wrap (x9_3 - 1)) = ji42 := (i64_w _).trans hji42
                                      by_cases c43 : 0 ≤ (ji42)
                                      · rw [if_pos c43] at H
                                        have c43b0 : decide (0 ≤ (ji42)) = true := decide_eq_true c43
                                        clear c43
                                        by_cases c44 : (ji42) < (t326.length : Int)
                                        · rw [if_pos c44] at H
                                          have c44b0 : decide ((ji42) < (t326.length : Int)) = true := decide_eq_true c44
                                          clear c44
                                          by_cases c45 : (rd t326 x9_3) > (rd t326 (ji42))
                                          · rw [if_pos c45] at H
                                            have c45b0 : decide ((rd t326 (ji42)) < (rd t326 x9_3)) = true := decide_eq_true c45
                                            clear c45
                                            obtain rfl := Option.some.inj H
                                            obtain ⟨Ao46, co46, eo46⟩ := Kd.R_slice HO_7.out
                                            subst eo46
                                            have p333 : 0 ≤ (x9_3 : Int) := of_decide_eq_true (by first | (with_reducible assumption) | assumption)
                                            have q333 : x9_3 < (t326.length : Int) := of_decide_eq_true (by first | (with_reducible assumption) | assumption)
                                            obtain ⟨ad333, e333, hx333_0⟩ := Kd.at_int (Kd.R_reads' HO_7.out).2.2 x9_3 p333 q333
                                            cases e333
                                            replace p333 := eq_true p333
                                            replace q333 := eq_true q333
                                            have p334 : 0 ≤ (x9_3 : Int) := of_decide_eq_true (by first | (with_reducible assumption) | assumption)
                                            have q334 : x9_3 < (t326.length : Int) := of_decide_eq_true (by first | (with_reducible assumption) | assumption)
                                            obtain ⟨ad334, e334, hx334_0⟩ := Kd.at_int (Kd.R_reads' HO_7.out).2.2 x9_3 p334 q334
                                            obtain rfl : ad333 = ad334 := (by injection e334)
                                            replace p334 := eq_true p334
                                            replace q334 := eq_true q334
                                            have p335 : 0 ≤ (x9_3 : Int) := of_decide_eq_true (by first | (with_reducible assumption) | assumption)
                                            have q335 : x9_3 < (t326.length : Int) := of_decide_eq_true (by first | (with_reducible assumption) | assumption)
                                            obtain ⟨ad335, e335, hx335_0⟩ := Kd.at_int (Kd.R_reads' HO_7.out).2.2 x9_3 p335 q335
                                            obtain rfl : ad333 = ad335 := (by injection e335)
                                            replace p335 := eq_true p335
                                            replace q335 := eq_true q335
                                            obtain ⟨Ao47, co47, eo47⟩ := Kd.R_slice HO_8.out
                                            subst eo47
                                            have p336 : 0 ≤ ((rd t326 x9_3) : Int) := of_decide_eq_true (by first | (with_reducible assumption) | assumption)
                                            have q336 : (rd t326 x9_3) < (t329.length : Int) := of_decide_eq_true (by first | (with_reducible assumption) | assumption)
                                            obtain ⟨ad336, e336, hx336_0⟩ := Kd.at_bool (Kd.R_reads' HO_8.out).2.2 (rd t326 x9_3) p336 q336
                                            (try rw [← Nbq35.out] at hx336_0)
                                            cases e336
                                            replace p336 := eq_true p336
                                            replace q336 := eq_true q336
                                            have p337 : 0 ≤ (x9_3 : Int) := of_decide_eq_true (by first | (with_reducible assumption) | assumption)
                                            have q337 : x9_3 < (t326.length : Int) := of_decide_eq_true (by first | (with_reducible assumption) | assumption)
                                            obtain ⟨ad337, e337, hx337_0⟩ := Kd.at_int (Kd.R_reads' HO_7.out).2.2 x9_3 p337 q337
                                            obtain rfl : ad333 = ad337 := (by injection e337)
                                            replace p337 := eq_true p337
                                            replace q337 := eq_true q337
                                            have p338 : 0 ≤ ((rd t326 x9_3) : Int) := of_decide_eq_true (by first | (with_reducible assumption) | assumption)
                                            have q338 : (rd t326 x9_3) < (l0.length : Int) := of_decide_eq_true (by first | (with_reducible assumption) | assumption)
                                            obtain ⟨ad338, A338_2, c338_2, e338, hx338_0, hx338_1, hx338_2, hl338_2, hi338_2⟩ := at_T36 HR0.out (rd t326 x9_3) p338 q338
                                            (try rw [← Nbq35.out] at hx338_0)
                                            cases e338
                                            replace hx338_0 := (HB.out.cell (World.block_lt_of_cell? w _ hx338_0)).trans hx338_0
                                            replace hx338_1 := (HB.out.cell (World.block_lt_of_cell? w _ hx338_1)).trans hx338_1
                                            replace hx338_2 := (HB.out.cell (World.block_lt_of_cell? w _ hx338_2)).trans hx338_2
                                            have HR338_2 := Aside0.mk hi338_2
                                            have HC338_2 := Aside0.mk hl338_2
                                            clear hi338_2 hl338_2
                                            replace p338 := eq_true p338
                                            replace q338 := eq_true q338
                                            have p339 : 0 ≤ (x9_3 : Int) := of_decide_eq_true (by first | (with_reducible assumption) | assumption)
                                            have q339 : x9_3 < (t326.length : Int) := of_decide_eq_true (by first | (with_reducible assumption) | assumption)
                                            obtain ⟨ad339, e339, hx339_0⟩ := Kd.at_int (Kd.R_reads' HO_7.out).2.2 x9_3 p339 q339
                                            obtain rfl : ad333 = ad339 := (by injection e339)
                                            replace p339 := eq_true p339
                                            replace q339 := eq_true q339
                                            have p340 : 0 ≤ ((ji42) : Int) := of_decide_eq_true (by first | (with_reducible assumption) | assumption)
                                            have q340 : (ji42) < (t326.length : Int) := of_decide_eq_true (by first | (with_reducible assumption) | assumption)
                                            obtain ⟨ad340, e340, hx340_0⟩ := Kd.at_int (Kd.R_reads' HO_7.out).2.2 (ji42) p340 q340
                                            obtain rfl : ad333 = ad340 := (by injection e340)
                                            replace p340 := eq_true p340
                                            replace q340 := eq_true q340
                                            go_wp2
                                            repeat (go_quiet (fail); try go_wp2)
                                            go_ret
                                            exact ⟨by first | rfl | (simp [errW_none, errW_some] <;> rfl) | (simp only [← hji42]; first | rfl | (simp [errW_none, errW_some] <;> rfl)) | (simp [*, errW_none, errW_some] <;> rfl), by repeat (first | (with_reducible first | exact HB.out | apply below_alloc | apply pw_below_drewN | apply below_drew1) | exact HB.out)⟩
                                          · rw [if_neg c45] at H
                                            have c45b0 : decide ((rd t326 (ji42)) < (rd t326 x9_3)) = false := decide_eq_false c45
                                            clear c45
                                            have H' := Aside0.mk H
                                            clear H
                                            obtain ⟨Ao48, co48, eo48⟩ := Kd.R_slice HO_7.out
                                            subst eo48
                                            have p333 : 0 ≤ (x9_3 : Int) := of_decide_eq_true (by first | (with_reducible assumption) | assumption)
                                            have q333 : x9_3 < (t326.length : Int) := of_decide_eq_true (by first | (with_reducible assumption) | assumption)
                                            obtain ⟨ad333, e333, hx333_0⟩ := Kd.at_int (Kd.R_reads' HO_7.out).2.2 x9_3 p333 q333
                                            cases e333
                                            replace p333 := eq_true p333
                                            replace q333 := eq_true q333
                                            have p334 : 0 ≤ (x9_3 : Int) := of_decide_eq_true (by first | (with_reducible assumption) | assumption)
                                            have q334 : x9_3 < (t326.length : Int) := of_decide_eq_true (by first | (with_reducible assumption) | assumption)
                                            obtain ⟨ad334, e334, hx334_0⟩ := Kd.at_int (Kd.R_reads' HO_7.out).2.2 x9_3 p334 q334
                                            obtain rfl : ad333 = ad334 := (by injection e334)
                                            replace p334 := eq_true p334
                                            replace q334 := eq_true q334
                                            have p335 : 0 ≤ (x9_3 : Int) := of_decide_eq_true (by first | (with_reducible assumption) | assumption)
                                            have q335 : x9_3 < (t326.length : Int) := of_decide_eq_true (by first | (with_reducible assumption) | assumption)
                                            obtain ⟨ad335, e335, hx335_0⟩ := Kd.at_int (Kd.R_reads' HO_7.out).2.2 x9_3 p335 q335
                                            obtain rfl : ad333 = ad335 := (by injection e335)
                                            replace p335 := eq_true p335
                                            replace q335 := eq_true q335
                                            obtain ⟨Ao49, co49, eo49⟩ := Kd.R_slice HO_8.out
                                            subst eo49
                                            have p336 : 0 ≤ ((rd t326 x9_3) : Int) := of_decide_eq_true (by first | (with_reducible assumption) | assumption)
                                            have q336 : (rd t326 x9_3) < (t329.length : Int) := of_decide_eq_true (by first | (with_reducible assumption) | assumption)
                                            obtain ⟨ad336, e336, hx336_0⟩ := Kd.at_bool (Kd.R_reads' HO_8.out).2.2 (rd t326 x9_3) p336 q336
                                            (try rw [← Nbq35.out] at hx336_0)
                                            cases e336
                                            replace p336 := eq_true p336
                                            replace q336 := eq_true q336
                                            have p337 : 0 ≤ (x9_3 : Int) := of_decide_eq_true (by first | (with_reducible assumption) | assumption)
                                            have q337 : x9_3 < (t326.length : Int) := of_decide_eq_true (by first | (with_reducible assumption) | assumption)
                                            obtain ⟨ad337, e337, hx337_0⟩ := Kd.at_int (Kd.R_reads' HO_7.out).2.2 x9_3 p337 q337
                                            obtain rfl : ad333 = ad337 := (by injection e337)
                                            replace p337 := eq_true p337
                                            replace q337 := eq_true q337
                                            have p338 : 0 ≤ ((rd t326 x9_3) : Int) := of_decide_eq_true (by first | (with_reducible assumption) | assumption)
                                            have q338 : (rd t326 x9_3) < (l0.length : Int) := of_decide_eq_true (by first | (with_reducible assumption) | assumption)
                                            obtain ⟨ad338, A338_2, c338_2, e338, hx338_0, hx338_1, hx338_2, hl338_2, hi338_2⟩ := at_T36 HR0.out (rd t326 x9_3) p338 q338
                                            (try rw [← Nbq35.out] at hx338_0)
                                            cases e338
                                            replace hx338_0 := (HB.out.cell (World.block_lt_of_cell? w _ hx338_0)).trans hx338_0
                                            replace hx338_1 := (HB.out.cell (World.block_lt_of_cell? w _ hx338_1)).trans hx338_1
                                            replace hx338_2 := (HB.out.cell (World.block_lt_of_cell? w _ hx338_2)).trans hx338_2
                                            have HR338_2 := Aside0.mk hi338_2
                                            have HC338_2 := Aside0.mk hl338_2
                                            clear hi338_2 hl338_2
                                            replace p338 := eq_true p338
                                            replace q338 := eq_true q338
                                            have p339 : 0 ≤ (x9_3 : Int) := of_decide_eq_true (by first | (with_reducible assumption) | assumption)
                                            have q339 : x9_3 < (t326.length : Int) := of_decide_eq_true (by first | (with_reducible assumption) | assumption)
                                            obtain ⟨ad339, e339, hx339_0⟩ := Kd.at_int (Kd.R_reads' HO_7.out).2.2 x9_3 p339 q339
                                            obtain rfl : ad333 = ad339 := (by injection e339)
                                            replace p339 := eq_true p339
                                            replace q339 := eq_true q339
                                            have p340 : 0 ≤ ((ji42) : Int) := of_decide_eq_true (by first | (with_reducible assumption) | assumption)
                                            have q340 : (ji42) < (t326.length : Int) := of_decide_eq_true (by first | (with_reducible assumption) | assumption)
                                            obtain ⟨ad340, e340, hx340_0⟩ := Kd.at_int (Kd.R_reads' HO_7.out).2.2 (ji42) p340 q340
                                            obtain rfl : ad333 = ad340 := (by injection e340)
                                            replace p340 := eq_true p340
                                            replace q340 := eq_true q340
                                            go_wp2
                                            repeat (go_quiet (fail); try go_wp2)
                                            go_roundg k3
                                            case measure => have := HJ4.out; have := HJ15.out; have := HK3.out; omega
                                            case rel => exact ⟨(wrap64 (x9_3 + 1)), (by first | rfl | (simp; done) | (simp [*]; done)), H', ⟨by have := HJ4.out; have := HJ15.out; have := HK3.out; omega⟩, ⟨by (with_reducible repeat (first | apply Kd.R_alloc | apply Kd.R_drewN | apply Kd.R_drew)); exact HO_7.out⟩, ⟨by (with_reducible repeat (first | apply Kd.R_alloc | apply Kd.R_drewN | apply Kd.R_drew)); exact HO_8.out⟩, ⟨by repeat (first | (with_reducible first | exact HB.out | apply below_alloc | apply pw_below_drewN | apply below_drew1) | exact HB.out)⟩⟩
                                        · rw [if_neg c44] at H
                                          exact absurd H (by simp)
                                      · rw [if_neg c43] at H
                                        exact absurd H (by simp)
                                    · rw [if_neg c41] at H
                                      have c41b0 : decide (1 < x9_3) = false := decide_eq_false c41
                                      clear c41
                                      have H' := Aside0.mk H
                                      clear H
                                      obtain ⟨Ao50, co50, eo50⟩ := Kd.R_slice HO_7.out
                                      subst eo50
                                      have p333 : 0 ≤ (x9_3 : Int) := of_decide_eq_true (by first | (with_reducible assumption) | assumption)
                                      have q333 : x9_3 < (t326.length : Int) := of_decide_eq_true (by first | (with_reducible assumption) | assumption)
                                      obtain ⟨ad333, e333, hx333_0⟩ := Kd.at_int (Kd.R_reads' HO_7.out).2.2 x9_3 p333 q333
                                      cases e333
                                      replace p333 := eq_true p333
                                      replace q333 := eq_true q333
                                      have p334 : 0 ≤ (x9_3 : Int) := of_decide_eq_true (by first | (with_reducible assumption) | assumption)
                                      have q334 : x9_3 < (t326.length : Int) := of_decide_eq_true (by first | (with_reducible assumption) | assumption)
                                      obtain ⟨ad334, e334, hx334_0⟩ := Kd.at_int (Kd.R_reads' HO_7.out).2.2 x9_3 p334 q334
                                      obtain rfl : ad333 = ad334 := (by injection e334)
                                      replace p334 := eq_true p334
                                      replace q334 := eq_true q334
                                      have p335 : 0 ≤ (x9_3 : Int) := of_decide_eq_true (by first | (with_reducible assumption) | assumption)
                                      have q335 : x9_3 < (t326.length : Int) := of_decide_eq_true (by first | (with_reducible assumption) | assumption)
                                      obtain ⟨ad335, e335, hx335_0⟩ := Kd.at_int (Kd.R_reads' HO_7.out).2.2 x9_3 p335 q335
                                      obtain rfl : ad333 = ad335 := (by injection e335)
                                      replace p335 := eq_true p335
                                      replace q335 := eq_true q335
                                      obtain ⟨Ao51, co51, eo51⟩ := Kd.R_slice HO_8.out
                                      subst eo51
                                      have p336 : 0 ≤ ((rd t326 x9_3) : Int) := of_decide_eq_true (by first | (with_reducible assumption) | assumption)
                                      have q336 : (rd t326 x9_3) < (t329.length : Int) := of_decide_eq_true (by first | (with_reducible assumption) | assumption)
                                      obtain ⟨ad336, e336, hx336_0⟩ := Kd.at_bool (Kd.R_reads' HO_8.out).2.2 (rd t326 x9_3) p336 q336
                                      (try rw [← Nbq35.out] at hx336_0)
                                      cases e336
                                      replace p336 := eq_true p336
                                      replace q336 := eq_true q336
                                      have p337 : 0 ≤ (x9_3 : Int) := of_decide_eq_true (by first | (with_reducible assumption) | assumption)
                                      have q337 : x9_3 < (t326.length : Int) := of_decide_eq_true (by first | (with_reducible assumption) | assumption)
                                      obtain ⟨ad337, e337, hx337_0⟩ := Kd.at_int (Kd.R_reads' HO_7.out).2.2 x9_3 p337 q337
                                      obtain rfl : ad333 = ad337 := (by injection e337)
                                      replace p337 := eq_true p337
                                      replace q337 := eq_true q337
                                      have p338 : 0 ≤ ((rd t326 x9_3) : Int) := of_decide_eq_true (by first | (with_reducible assumption) | assumption)
                                      have q338 : (rd t326 x9_3) < (l0.length : Int) := of_decide_eq_true (by first | (with_reducible assumption) | assumption)
                                      obtain ⟨ad338, A338_2, c338_2, e338, hx338_0, hx338_1, hx338_2, hl338_2, hi338_2⟩ := at_T36 HR0.out (rd t326 x9_3) p338 q338
                                      (try rw [← Nbq35.out] at hx338_0)
                                      cases e338
                                      replace hx338_0 := (HB.out.cell (World.block_lt_of_cell? w _ hx338_0)).trans hx338_0
                                      replace hx338_1 := (HB.out.cell (World.block_lt_of_cell? w _ hx338_1)).trans hx338_1
                                      replace hx338_2 := (HB.out.cell (World.block_lt_of_cell? w _ hx338_2)).trans hx338_2
                                      have HR338_2 := Aside0.mk hi338_2
                                      have HC338_2 := Aside0.mk hl338_2
                                      clear hi338_2 hl338_2
                                      replace p338 := eq_true p338
                                      replace q338 := eq_true q338
                                      go_wp2
                                      repeat (go_quiet (fail); try go_wp2)
                                      go_roundg k3
                                      case measure => have := HJ4.out; have := HJ15.out; have := HK3.out; omega
                                      case rel => exact ⟨(wrap64 (x9_3 + 1)), (by first | rfl | (simp; done) | (simp [*]; done)), H', ⟨by have := HJ4.out; have := HJ15.out; have := HK3.out; omega⟩, ⟨by (with_reducible repeat (first | apply Kd.R_alloc | apply Kd.R_drewN | apply Kd.R_drew)); exact HO_7.out⟩, ⟨by (with_reducible repeat (first | apply Kd.R_alloc | apply Kd.R_drewN | apply Kd.R_drew)); exact HO_8.out⟩, ⟨by repeat (first | (with_reducible first | exact HB.out | apply below_alloc | apply pw_below_drewN | apply below_drew1) | exact HB.out)⟩⟩
                                · rw [if_neg c37] at H
                                  exact absurd H (by simp)
                              · replace c36 := Bool.eq_false_iff.mpr c36
                                subst c36
                                have H1 : (some false) = some r := by rw [if_neg (show ¬ (false = true) by decide)] at H; exact H
                                clear H
                                have H := H1
                                clear H1
                                obtain rfl := Option.some.inj H
                                obtain ⟨Ao52, co52, eo52⟩ := Kd.R_slice HO_7.out
                                subst eo52
                                have p333 : 0 ≤ (x9_3 : Int) := of_decide_eq_true (by first | (with_reducible assumption) | assumption)
                                have q333 : x9_3 < (t326.length : Int) := of_decide_eq_true (by first | (with_reducible assumption) | assumption)
                                obtain ⟨ad333, e333, hx333_0⟩ := Kd.at_int (Kd.R_reads' HO_7.out).2.2 x9_3 p333 q333
                                cases e333
                                replace p333 := eq_true p333
                                replace q333 := eq_true q333
                                have p334 : 0 ≤ (x9_3 : Int) := of_decide_eq_true (by first | (with_reducible assumption) | assumption)
                                have q334 : x9_3 < (t326.length : Int) := of_decide_eq_true (by first | (with_reducible assumption) | assumption)
                                obtain ⟨ad334, e334, hx334_0⟩ := Kd.at_int (Kd.R_reads' HO_7.out).2.2 x9_3 p334 q334
                                obtain rfl : ad333 = ad334 := (by injection e334)
                                replace p334 := eq_true p334
                                replace q334 := eq_true q334
                                have p335 : 0 ≤ (x9_3 : Int) := of_decide_eq_true (by first | (with_reducible assumption) | assumption)
                                have q335 : x9_3 < (t326.length : Int) := of_decide_eq_true (by first | (with_reducible assumption) | assumption)
                                obtain ⟨ad335, e335, hx335_0⟩ := Kd.at_int (Kd.R_reads' HO_7.out).2.2 x9_3 p335 q335
                                obtain rfl : ad333 = ad335 := (by injection e335)
                                replace p335 := eq_true p335
                                replace q335 := eq_true q335
                                obtain ⟨Ao53, co53, eo53⟩ := Kd.R_slice HO_8.out
                                subst eo53
                                have p336 : 0 ≤ ((rd t326 x9_3) : Int) := of_decide_eq_true (by first | (with_reducible assumption) | assumption)
                                have q336 : (rd t326 x9_3) < (t329.length : Int) := of_decide_eq_true (by first | (with_reducible assumption) | assumption)
                                obtain ⟨ad336, e336, hx336_0⟩ := Kd.at_bool (Kd.R_reads' HO_8.out).2.2 (rd t326 x9_3) p336 q336
                                (try rw [← Nbq35.out] at hx336_0)
                                cases e336
                                replace p336 := eq_true p336
                                replace q336 := eq_true q336
                                go_wp2
                                repeat (go_quiet (fail); try go_wp2)
                                go_ret
                                exact ⟨by first | rfl | (simp [errW_none, errW_some] <;> rfl) | (simp [*, errW_none, errW_some] <;> rfl), by repeat (first | (with_reducible first | exact HB.out | apply below_alloc | apply pw_below_drewN | apply below_drew1) | exact HB.out)⟩
                            · rw [if_neg c34] at H
                              exact absurd H (by simp)
                          · rw [if_neg c33] at H
                            exact absurd H (by simp)
                    · rw [if_neg c28] at H
                      exact absurd H (by simp)
                  · rw [if_neg c27] at H
                    have c27b0 : decide (x9_3 < (t326.length : Int)) = false := decide_eq_false c27
                    clear c27
                    by_cases c54 : 0 ≤ a1
                    · rw [if_pos c54] at H
                      have c54b0 : decide (0 ≤ a1) = true := decide_eq_true c54
                      clear c54
                      by_cases c55 : a1 < (l0.length : Int)
                      · rw [if_pos c55] at H
                        have c55b0 : decide (a1 < (l0.length : Int)) = true := decide_eq_true c55
                        clear c55
                        replace H := Option.bind_eq_some_iff.mp H
                        obtain ⟨t342, A560, H⟩ := H
                        replace H : ((velvet_Thorny.f k3 l0).bind fun t343 => (stepladderlaw21_VelvetLinks.l1 k3 l0 a1 t329 t342 t343 false 0)) = some r := H
                        have A56 := Aside0.mk A560
                        clear A560
                        replace H := Option.bind_eq_some_iff.mp H
                        obtain ⟨t343, A570, H⟩ := H
                        replace H : (stepladderlaw21_VelvetLinks.l1 k3 l0 a1 t329 t342 t343 false 0) = some r := H
                        have A57 := Aside0.mk A570
                        clear A570
                        have H' := Aside0.mk H
                        clear H
                        obtain ⟨Ao58, co58, eo58⟩ := Kd.R_slice HO_7.out
                        subst eo58
                        have p341 : 0 ≤ (a1 : Int) := of_decide_eq_true (by first | (with_reducible assumption) | assumption)
                        have q341 : a1 < (l0.length : Int) := of_decide_eq_true (by first | (with_reducible assumption) | assumption)
                        obtain ⟨ad341, A341_2, c341_2, e341, hx341_0, hx341_1, hx341_2, hl341_2, hi341_2⟩ := at_T36 HR0.out a1 p341 q341
                        cases e341
                        replace hx341_0 := (HB.out.cell (World.block_lt_of_cell? w _ hx341_0)).trans hx341_0
                        replace hx341_1 := (HB.out.cell (World.block_lt_of_cell? w _ hx341_1)).trans hx341_1
                        replace hx341_2 := (HB.out.cell (World.block_lt_of_cell? w _ hx341_2)).trans hx341_2
                        have HR341_2 := Aside0.mk hi341_2
                        have HC341_2 := Aside0.mk hl341_2
                        clear hi341_2 hl341_2
                        replace p341 := eq_true p341
                        replace q341 := eq_true q341
                        go_wp2_with (first | (go_at_call 12; (with_reducible refine (stepladderref12_Ints.calls k3 _ _ t326 _ _ ((rd_T36 l0 a1).f2) t342 _ ?side1 ?side2 ?side3 ?side4 A56.out).mono ?_); (case side1 => repeat (first | exact (Kd.R_reads' HO_7.out).2.2 | (with_reducible refine Kd.C_alloc ?_ _) | (with_reducible refine Kd.C_drewN ?_ _) | (with_reducible refine Kd.C_drew ?_))); (case side2 => exact (Kd.R_reads' HO_7.out).2.1); (case side3 => repeat (first | exact (Kd.C_below HR341_2.out HB.out) | (with_reducible refine Kd.C_alloc ?_ _) | (with_reducible refine Kd.C_drewN ?_ _) | (with_reducible refine Kd.C_drew ?_))); (case side4 => exact HC341_2.out); rintro e w' ⟨rfl, ⟨nd, rfl⟩⟩; (try first | exact ⟨rfl, _, World.drewN_drewN _ _ _⟩ | exact ⟨rfl, _, Eq.trans (World.drewN_drewN _ _ _) (congrArg (World.drewN _) (Nat.add_assoc _ _ _))⟩)) | (go_at_call 18; (with_reducible refine (velvet_Thorny.calls k3 _ _ l0 t343 _ ?side1 ?side2 A57.out).mono ?_); (case side1 => repeat (first | exact (Kd.C_below HR0.out (by repeat (first | (with_reducible first | exact HB.out | apply below_alloc | apply pw_below_drewN | apply below_drew1) | exact HB.out))) | (with_reducible refine Kd.C_alloc ?_ _) | (with_reducible refine Kd.C_drewN ?_ _) | (with_reducible refine Kd.C_drew ?_))); (case side2 => exact HC0.out); rintro e w59 ⟨v344, rfl, ho0, hb⟩; have n0_ := Aside0.mk (Kd.R_elder' (by (with_reducible repeat (first | apply Kd.R_alloc | apply Kd.R_drewN | apply Kd.R_drew)); exact HO_7.out) (Kd.R_base ho0) hb); have n1_ := Aside0.mk (Kd.R_below (by (with_reducible repeat (first | apply Kd.R_alloc | apply Kd.R_drewN | apply Kd.R_drew)); exact HO_8.out) hb); have n2_ := Aside0.mk (Kd.R_lower (Kd.R_new' ho0 (Kd.R_lt (by (with_reducible repeat (first | apply Kd.R_alloc | apply Kd.R_drewN | apply Kd.R_drew)); exact HO_7.out))) (below_size (by repeat (first | (with_reducible first | exact HB.out | apply below_alloc | apply pw_below_drewN | apply below_drew1) | exact HB.out)))); have n3_ := Aside0.mk (below_step (by repeat (first | (with_reducible first | exact HB.out | apply below_alloc | apply pw_below_drewN | apply below_drew1) | exact HB.out)) hb); clear HO_7; clear HO_8; clear HB; have HO_7 := n0_; have HO_8 := n1_; have HO345 := n2_; have HB := n3_; clear n0_ n1_ n2_ n3_; (try clear hb); (try clear hb2); (try clear hk); (try clear hi); (try clear ho0)))
                        repeat (go_quiet (first | (go_at_call 12; (with_reducible refine (stepladderref12_Ints.calls k3 _ _ t326 _ _ ((rd_T36 l0 a1).f2) t342 _ ?side1 ?side2 ?side3 ?side4 A56.out).mono ?_); (case side1 => repeat (first | exact (Kd.R_reads' HO_7.out).2.2 | (with_reducible refine Kd.C_alloc ?_ _) | (with_reducible refine Kd.C_drewN ?_ _) | (with_reducible refine Kd.C_drew ?_))); (case side2 => exact (Kd.R_reads' HO_7.out).2.1); (case side3 => repeat (first | exact (Kd.C_below HR341_2.out HB.out) | (with_reducible refine Kd.C_alloc ?_ _) | (with_reducible refine Kd.C_drewN ?_ _) | (with_reducible refine Kd.C_drew ?_))); (case side4 => exact HC341_2.out); rintro e w' ⟨rfl, ⟨nd, rfl⟩⟩; (try first | exact ⟨rfl, _, World.drewN_drewN _ _ _⟩ | exact ⟨rfl, _, Eq.trans (World.drewN_drewN _ _ _) (congrArg (World.drewN _) (Nat.add_assoc _ _ _))⟩)) | (go_at_call 18; (with_reducible refine (velvet_Thorny.calls k3 _ _ l0 t343 _ ?side1 ?side2 A57.out).mono ?_); (case side1 => repeat (first | exact (Kd.C_below HR0.out (by repeat (first | (with_reducible first | exact HB.out | apply below_alloc | apply pw_below_drewN | apply below_drew1) | exact HB.out))) | (with_reducible refine Kd.C_alloc ?_ _) | (with_reducible refine Kd.C_drewN ?_ _) | (with_reducible refine Kd.C_drew ?_))); (case side2 => exact HC0.out); rintro e w59 ⟨v344, rfl, ho0, hb⟩; have n0_ := Aside0.mk (Kd.R_elder' (by (with_reducible repeat (first | apply Kd.R_alloc | apply Kd.R_drewN | apply Kd.R_drew)); exact HO_7.out) (Kd.R_base ho0) hb); have n1_ := Aside0.mk (Kd.R_below (by (with_reducible repeat (first | apply Kd.R_alloc | apply Kd.R_drewN | apply Kd.R_drew)); exact HO_8.out) hb); have n2_ := Aside0.mk (Kd.R_lower (Kd.R_new' ho0 (Kd.R_lt (by (with_reducible repeat (first | apply Kd.R_alloc | apply Kd.R_drewN | apply Kd.R_drew)); exact HO_7.out))) (below_size (by repeat (first | (with_reducible first | exact HB.out | apply below_alloc | apply pw_below_drewN | apply below_drew1) | exact HB.out)))); have n3_ := Aside0.mk (below_step (by repeat (first | (with_reducible first | exact HB.out | apply below_alloc | apply pw_below_drewN | apply below_drew1) | exact HB.out)) hb); clear HO_7; clear HO_8; clear HB; have HO_7 := n0_; have HO_8 := n1_; have HO345 := n2_; have HB := n3_; clear n0_ n1_ n2_ n3_; (try clear hb); (try clear hb2); (try clear hk); (try clear hi); (try clear ho0))); try go_wp2_with (first | (go_at_call 12; (with_reducible refine (stepladderref12_Ints.calls k3 _ _ t326 _ _ ((rd_T36 l0 a1).f2) t342 _ ?side1 ?side2 ?side3 ?side4 A56.out).mono ?_); (case side1 => repeat (first | exact (Kd.R_reads' HO_7.out).2.2 | (with_reducible refine Kd.C_alloc ?_ _) | (with_reducible refine Kd.C_drewN ?_ _) | (with_reducible refine Kd.C_drew ?_))); (case side2 => exact (Kd.R_reads' HO_7.out).2.1); (case side3 => repeat (first | exact (Kd.C_below HR341_2.out HB.out) | (with_reducible refine Kd.C_alloc ?_ _) | (with_reducible refine Kd.C_drewN ?_ _) | (with_reducible refine Kd.C_drew ?_))); (case side4 => exact HC341_2.out); rintro e w' ⟨rfl, ⟨nd, rfl⟩⟩; (try first | exact ⟨rfl, _, World.drewN_drewN _ _ _⟩ | exact ⟨rfl, _, Eq.trans (World.drewN_drewN _ _ _) (congrArg (World.drewN _) (Nat.add_assoc _ _ _))⟩)) | (go_at_call 18; (with_reducible refine (velvet_Thorny.calls k3 _ _ l0 t343 _ ?side1 ?side2 A57.out).mono ?_); (case side1 => repeat (first | exact (Kd.C_below HR0.out (by repeat (first | (with_reducible first | exact HB.out | apply below_alloc | apply pw_below_drewN | apply below_drew1) | exact HB.out))) | (with_reducible refine Kd.C_alloc ?_ _) | (with_reducible refine Kd.C_drewN ?_ _) | (with_reducible refine Kd.C_drew ?_))); (case side2 => exact HC0.out); rintro e w59 ⟨v344, rfl, ho0, hb⟩; have n0_ := Aside0.mk (Kd.R_elder' (by (with_reducible repeat (first | apply Kd.R_alloc | apply Kd.R_drewN | apply Kd.R_drew)); exact HO_7.out) (Kd.R_base ho0) hb); have n1_ := Aside0.mk (Kd.R_below (by (with_reducible repeat (first | apply Kd.R_alloc | apply Kd.R_drewN | apply Kd.R_drew)); exact HO_8.out) hb); have n2_ := Aside0.mk (Kd.R_lower (Kd.R_new' ho0 (Kd.R_lt (by (with_reducible repeat (first | apply Kd.R_alloc | apply Kd.R_drewN | apply Kd.R_drew)); exact HO_7.out))) (below_size (by repeat (first | (with_reducible first | exact HB.out | apply below_alloc | apply pw_below_drewN | apply below_drew1) | exact HB.out)))); have n3_ := Aside0.mk (below_step (by repeat (first | (with_reducible first | exact HB.out | apply below_alloc | apply pw_below_drewN | apply below_drew1) | exact HB.out)) hb); clear HO_7; clear HO_8; clear HB; have HO_7 := n0_; have HO_8 := n1_; have HO345 := n2_; have HB := n3_; clear n0_ n1_ n2_ n3_; (try clear hb); (try clear hb2); (try clear hk); (try clear hi); (try clear ho0))))
                        go_loopg [12, 13] k3 (fun kq v12 v13 w' => ∃ (x12_4 : Bool) (x13_4 : Int), v12 = .bool x12_4 ∧ v13 = .int .i64 x13_4 ∧ Aside0 (stepladderlaw21_VelvetLinks.l1 kq l0 a1 t329 t342 t343 x12_4 x13_4 = some r) ∧ Aside0 (kq ≤ k3) ∧ Aside0 (Kd.R Kd.bool 4 w' w.heap.size (fun _ => True) v330 t329) ∧ Aside0 (Kd.R (Kd.int .i64) 3 w' w.heap.size (fun _ => True) v344 t343) ∧ Aside0 (Below w.heap.size w w'))
                        case atStart => exact ⟨(false), (0), (by first | rfl | (simp; done) | (simp [*]; done)), (by first | rfl | (simp; done) | (simp [*]; done)), H', ⟨Nat.le_refl _⟩, ⟨by (with_reducible repeat (first | apply Kd.R_alloc | apply Kd.R_drewN | apply Kd.R_drew)); exact HO_8.out⟩, ⟨by (with_reducible repeat (first | apply Kd.R_alloc | apply Kd.R_drewN | apply Kd.R_drew)); exact Kd.R_mono HO345.out (fun _ hk => trivial)⟩, ⟨by repeat (first | (with_reducible first | exact HB.out | apply below_alloc | apply pw_below_drewN | apply below_drew1) | exact HB.out)⟩⟩
                        case round =>
                          clear H'
                          try clear c1
                          try clear c2
                          try clear p2
                          try clear c3
                          try clear p3
                          try clear q3
                          try clear hx3
                          try clear qi3
                          try clear c4
                          try clear c5
                          try clear p6
                          try clear c7
                          try clear c8
                          try clear c9
                          try clear c9b0
                          try clear c10
                          try clear c10b0
                          try clear c13
                          try clear c19
                          try clear c19b0
                          try clear c19b1
                          try clear c19b2
                          try clear c21
                          try clear c21b0
                          try clear c21b1
                          try clear c22
                          try clear c22b0
                          try clear c22b1
                          try clear c26
                          try clear c27
                          try clear c27b0
                          try clear c28
                          try clear c28b0
                          try clear c29
                          try clear c29b0
                          try clear c31
                          try clear c31b0
                          try clear c33
                          try clear c33b0
                          try clear p33
                          try clear q33
                          try clear hx33
                          try clear qi33
                          try clear c34
                          try clear c34b0
                          try clear p34
                          try clear q34
                          try clear hx34
                          try clear q35
                          try clear c36
                          try clear c37
                          try clear c37b0
                          try clear c38
                          try clear c38b0
                          try clear c41
                          try clear c41b0
                          try clear c43
                          try clear c43b0
                          try clear c44
                          try clear c44b0
                          try clear c45
                          try clear c45b0
                          try clear c54
                          try clear c54b0
                          try clear c55
                          try clear c55b0
                          try clear hx332_0
                          try clear hx333_0
                          try clear hx334_0
                          try clear hx335_0
                          try clear hx336_0
                          try clear hx337_0
                          try clear hx338_0
                          try clear hx338_1
                          try clear hx338_2
                          try clear hx339_0
                          try clear hx340_0
                          try clear hx341_0
                          try clear hx341_1
                          try clear hx341_2
                          try clear p2
                          try clear p3
                          try clear p332
                          try clear p333
                          try clear p334
                          try clear p335
                          try clear p336
                          try clear p337
                          try clear p338
                          try clear p339
                          try clear p340
                          try clear p341
                          try clear q3
                          try clear q332
                          try clear q333
                          try clear q334
                          try clear q335
                          try clear q336
                          try clear q337
                          try clear q338
                          try clear q339
                          try clear q340
                          try clear q341
                          obtain ⟨x12_4, x13_4, rfl, rfl, HA, HK4, HO_8, HO_11, HB⟩ := hrel
                          cases gk with
                          | zero => exact absurd HA.out (by simp [stepladderlaw21_VelvetLinks.l1])
                          | succ k4 =>
                            have H := HA.out
                            clear HA
                            simp only [stepladderlaw21_VelvetLinks.l1] at H
                            by_cases c60 : x13_4 < (t343.length : Int)
                            · rw [if_pos c60] at H
                              have c60b0 : decide (x13_4 < (t343.length : Int)) = true := decide_eq_true c60
                              clear c60
                              by_cases c61 : x12_4 = true
                              · subst c61
                                have H1 : (stepladderlaw21_VelvetLinks.l1 k4 l0 a1 t329 t342 t343 true (wrap64 (x13_4 + 1))) = some r := by rw [if_pos rfl] at H; exact H
                                clear H
                                have H := H1
                                clear H1
                                have H' := Aside0.mk H
                                clear H
                                obtain ⟨Ao62, co62, eo62⟩ := Kd.R_slice HO_11.out
                                subst eo62
                                go_wp2
                                repeat (go_quiet (fail); try go_wp2)
                                go_roundg k4
                                case measure => have := HJ4.out; have := HJ15.out; have := HK3.out; have := HK4.out; omega
                                case rel => exact ⟨(true), (wrap64 (x13_4 + 1)), (by first | rfl | (simp; done) | (simp [*]; done)), (by first | rfl | (simp; done) | (simp [*]; done)), H', ⟨by have := HJ4.out; have := HJ15.out; have := HK3.out; have := HK4.out; omega⟩, ⟨by (with_reducible repeat (first | apply Kd.R_alloc | apply Kd.R_drewN | apply Kd.R_drew)); exact HO_8.out⟩, ⟨by (with_reducible repeat (first | apply Kd.R_alloc | apply Kd.R_drewN | apply Kd.R_drew)); exact HO_11.out⟩, ⟨by repeat (first | (with_reducible first | exact HB.out | apply below_alloc | apply pw_below_drewN | apply below_drew1) | exact HB.out)⟩⟩
                              · replace c61 := Bool.eq_false_iff.mpr c61
                                subst c61
                                have H1 : (if 0 ≤ x13_4 then (stepladderlaw21_VelvetLinks.l1 k4 l0 a1 t329 t342 t343 ((rd t343 x13_4) == a1) (wrap64 (x13_4 + 1))) else (none)) = some r := by rw [if_neg (show ¬ (false = true) by decide)] at H; exact H
                                clear H
                                have H := H1
                                clear H1
                                by_cases c63 : 0 ≤ x13_4
                                · rw [if_pos c63] at H
                                  have c63b0 : decide (0 ≤ x13_4) = true := decide_eq_true c63
                                  clear c63
                                  have H' := Aside0.mk H
                                  clear H
                                  obtain ⟨Ao64, co64, eo64⟩ := Kd.R_slice HO_11.out
                                  subst eo64
                                  have p346 : 0 ≤ (x13_4 : Int) := of_decide_eq_true (by first | (with_reducible assumption) | assumption)
                                  have q346 : x13_4 < (t343.length : Int) := of_decide_eq_true (by first | (with_reducible assumption) | assumption)
                                  obtain ⟨ad346, e346, hx346_0⟩ := Kd.at_int (Kd.R_reads' HO_11.out).2.2 x13_4 p346 q346
                                  cases e346
                                  replace p346 := eq_true p346
                                  replace q346 := eq_true q346
                                  go_wp2
                                  repeat (go_quiet (fail); try go_wp2)
                                  go_roundg k4
                                  case measure => have := HJ4.out; have := HJ15.out; have := HK3.out; have := HK4.out; omega
                                  case rel => exact ⟨(((rd t343 x13_4) == a1)), (wrap64 (x13_4 + 1)), (by first | rfl | (simp; done) | (simp [*]; done)), (by first | rfl | (simp; done) | (simp [*]; done)), H', ⟨by have := HJ4.out; have := HJ15.out; have := HK3.out; have := HK4.out; omega⟩, ⟨by (with_reducible repeat (first | apply Kd.R_alloc | apply Kd.R_drewN | apply Kd.R_drew)); exact HO_8.out⟩, ⟨by (with_reducible repeat (first | apply Kd.R_alloc | apply Kd.R_drewN | apply Kd.R_drew)); exact HO_11.out⟩, ⟨by repeat (first | (with_reducible first | exact HB.out | apply below_alloc | apply pw_below_drewN | apply below_drew1) | exact HB.out)⟩⟩
                                · rw [if_neg c63] at H
                                  exact absurd H (by simp)
                            · rw [if_neg c60] at H
                              have c60b0 : decide (x13_4 < (t343.length : Int)) = false := decide_eq_false c60
                              clear c60
                              by_cases c65 : 0 ≤ a1
                              · rw [if_pos c65] at H
                                have c65b0 : decide (0 ≤ a1) = true := decide_eq_true c65
                                clear c65
                                by_cases c66 : a1 < (t329.length : Int)
                                · rw [if_pos c66] at H
                                  have c66b0 : decide (a1 < (t329.length : Int)) = true := decide_eq_true c66
                                  clear c66
                                  by_cases c67 : a1 < (l0.length : Int)
                                  · rw [if_pos c67] at H
                                    have c67b0 : decide (a1 < (l0.length : Int)) = true := decide_eq_true c67
                                    clear c67
                                    obtain ⟨bq68, hbq68⟩ : ∃ b_ : Bool, b_ = ((rd_T36 l0 a1).f0) := ⟨_, rfl⟩
                                    replace H : (if bq68 = true then (if ((rdOf false t329 a1) == t342) = true then (some (x12_4 == (!t342))) else (some false)) else (if ((rdOf false t329 a1) == false) = true then (some (x12_4 == false)) else (some false))) = some r := by rw [← hbq68] at H; exact H
                                    have Nbq68 := Aside0.mk hbq68
                                    clear hbq68
                                    by_cases c69 : bq68 = true
                                    · subst c69
                                      have H1 : (if ((rdOf false t329 a1) == t342) = true then (some (x12_4 == (!t342))) else (some false)) = some r := by rw [if_pos rfl] at H; exact H
                                      clear H
                                      have H := H1
                                      clear H1
                                      by_cases c70 : ((rdOf false t329 a1) == t342) = true
                                      · rw [if_pos c70] at H
                                        have c70b0 : ((rdOf false t329 a1) == t342) = true := c70
                                        (try (have c70b1 : decide ((rdOf false t329 a1) = t342) = true := by simpa using c70))
                                        (try (have c70b2 : ((rdOf false t329 a1) == t342) = true := by simpa using c70))
                                        clear c70
                                        obtain rfl := Option.some.inj H
                                        obtain ⟨Ao71, co71, eo71⟩ := Kd.R_slice HO_11.out
                                        subst eo71
                                        obtain ⟨Ao72, co72, eo72⟩ := Kd.R_slice HO_8.out
                                        subst eo72
                                        have p347 : 0 ≤ (a1 : Int) := of_decide_eq_true (by first | (with_reducible assumption) | assumption)
                                        have q347 : a1 < (t329.length : Int) := of_decide_eq_true (by first | (with_reducible assumption) | assumption)
                                        obtain ⟨ad347, e347, hx347_0⟩ := Kd.at_bool (Kd.R_reads' HO_8.out).2.2 a1 p347 q347
                                        (try rw [← Nbq68.out] at hx347_0)
                                        cases e347
                                        replace p347 := eq_true p347
                                        replace q347 := eq_true q347
                                        have p348 : 0 ≤ (a1 : Int) := of_decide_eq_true (by first | (with_reducible assumption) | assumption)
                                        have q348 : a1 < (l0.length : Int) := of_decide_eq_true (by first | (with_reducible assumption) | assumption)
                                        obtain ⟨ad348, A348_2, c348_2, e348, hx348_0, hx348_1, hx348_2, hl348_2, hi348_2⟩ := at_T36 HR0.out a1 p348 q348
                                        (try rw [← Nbq68.out] at hx348_0)
                                        obtain rfl : ad341 = ad348 := (by injection e348)
                                        replace hx348_0 := (HB.out.cell (World.block_lt_of_cell? w _ hx348_0)).trans hx348_0
                                        replace hx348_1 := (HB.out.cell (World.block_lt_of_cell? w _ hx348_1)).trans hx348_1
                                        replace hx348_2 := (HB.out.cell (World.block_lt_of_cell? w _ hx348_2)).trans hx348_2
                                        have HR348_2 := Aside0.mk hi348_2
                                        have HC348_2 := Aside0.mk hl348_2
                                        clear hi348_2 hl348_2
                                        replace p348 := eq_true p348
                                        replace q348 := eq_true q348
                                        have p349 : 0 ≤ (a1 : Int) := of_decide_eq_true (by first | (with_reducible assumption) | assumption)
                                        have q349 : a1 < (l0.length : Int) := of_decide_eq_true (by first | (with_reducible assumption) | assumption)
                                        obtain ⟨ad349, A349_2, c349_2, e349, hx349_0, hx349_1, hx349_2, hl349_2, hi349_2⟩ := at_T36 HR0.out a1 p349 q349
                                        (try rw [← Nbq68.out] at hx349_0)
                                        obtain rfl : ad341 = ad349 := (by injection e349)
                                        replace hx349_0 := (HB.out.cell (World.block_lt_of_cell? w _ hx349_0)).trans hx349_0
                                        replace hx349_1 := (HB.out.cell (World.block_lt_of_cell? w _ hx349_1)).trans hx349_1
                                        replace hx349_2 := (HB.out.cell (World.block_lt_of_cell? w _ hx349_2)).trans hx349_2
                                        have HR349_2 := Aside0.mk hi349_2
                                        have HC349_2 := Aside0.mk hl349_2
                                        clear hi349_2 hl349_2
                                        replace p349 := eq_true p349
                                        replace q349 := eq_true q349
                                        have ea_ := Option.some.inj (hx348_2.symm.trans hx349_2)
                                        injection ea_ with ea_ en_ ec_
                                        subst ea_
                                        subst ec_
                                        clear en_
                                        go_wp2
                                        repeat (go_quiet (fail); try go_wp2)
                                        go_ret
                                        exact ⟨by first | rfl | (simp [errW_none, errW_some] <;> rfl) | (simp [*, errW_none, errW_some] <;> rfl), by repeat (first | (with_reducible first | exact HB.out | apply below_alloc | apply pw_below_drewN | apply below_drew1) | exact HB.out)⟩
                                      · rw [if_neg c70] at H
                                        have c70b0 : ((rdOf false t329 a1) == t342) = false := by simpa using c70
                                        (try (have c70b1 : decide ((rdOf false t329 a1) = t342) = false := by simpa using c70))
                                        (try (have c70b2 : ((rdOf false t329 a1) == t342) = false := by simpa using c70))
                                        (try (have c70b3 : ¬ ((rdOf false t329 a1) = t342) := by simpa using c70))
                                        clear c70
                                        obtain rfl := Option.some.inj H
                                        obtain ⟨Ao73, co73, eo73⟩ := Kd.R_slice HO_11.out
                                        subst eo73
                                        obtain ⟨Ao74, co74, eo74⟩ := Kd.R_slice HO_8.out
                                        subst eo74
                                        have p347 : 0 ≤ (a1 : Int) := of_decide_eq_true (by first | (with_reducible assumption) | assumption)
                                        have q347 : a1 < (t329.length : Int) := of_decide_eq_true (by first | (with_reducible assumption) | assumption)
                                        obtain ⟨ad347, e347, hx347_0⟩ := Kd.at_bool (Kd.R_reads' HO_8.out).2.2 a1 p347 q347
                                        (try rw [← Nbq68.out] at hx347_0)
                                        cases e347
                                        replace p347 := eq_true p347
                                        replace q347 := eq_true q347
                                        have p348 : 0 ≤ (a1 : Int) := of_decide_eq_true (by first | (with_reducible assumption) | assumption)
                                        have q348 : a1 < (l0.length : Int) := of_decide_eq_true (by first | (with_reducible assumption) | assumption)
                                        obtain ⟨ad348, A348_2, c348_2, e348, hx348_0, hx348_1, hx348_2, hl348_2, hi348_2⟩ := at_T36 HR0.out a1 p348 q348
                                        (try rw [← Nbq68.out] at hx348_0)
                                        obtain rfl : ad341 = ad348 := (by injection e348)
                                        replace hx348_0 := (HB.out.cell (World.block_lt_of_cell? w _ hx348_0)).trans hx348_0
                                        replace hx348_1 := (HB.out.cell (World.block_lt_of_cell? w _ hx348_1)).trans hx348_1
                                        replace hx348_2 := (HB.out.cell (World.block_lt_of_cell? w _ hx348_2)).trans hx348_2
                                        have HR348_2 := Aside0.mk hi348_2
                                        have HC348_2 := Aside0.mk hl348_2
                                        clear hi348_2 hl348_2
                                        replace p348 := eq_true p348
                                        replace q348 := eq_true q348
                                        go_wp2
                                        repeat (go_quiet (fail); try go_wp2)
                                        go_ret
                                        exact ⟨by first | rfl | (simp [errW_none, errW_some] <;> rfl) | (simp [*, errW_none, errW_some] <;> rfl), by repeat (first | (with_reducible first | exact HB.out | apply below_alloc | apply pw_below_drewN | apply below_drew1) | exact HB.out)⟩
                                    · replace c69 := Bool.eq_false_iff.mpr c69
                                      subst c69
                                      have H1 : (if ((rdOf false t329 a1) == false) = true then (some (x12_4 == false)) else (some false)) = some r := by rw [if_neg (show ¬ (false = true) by decide)] at H; exact H
                                      clear H
                                      have H := H1
                                      clear H1
                                      by_cases c75 : ((rdOf false t329 a1) == false) = true
                                      · rw [if_pos c75] at H
                                        have c75b0 : ((rdOf false t329 a1) == false) = true := c75
                                        (try (have c75b1 : decide ((rdOf false t329 a1) = false) = true := by simpa using c75))
                                        (try (have c75b2 : ((rdOf false t329 a1) == false) = true := by simpa using c75))
                                        clear c75
                                        obtain rfl := Option.some.inj H
                                        obtain ⟨Ao76, co76, eo76⟩ := Kd.R_slice HO_11.out
                                        subst eo76
                                        obtain ⟨Ao77, co77, eo77⟩ := Kd.R_slice HO_8.out
                                        subst eo77
                                        have p347 : 0 ≤ (a1 : Int) := of_decide_eq_true (by first | (with_reducible assumption) | assumption)
                                        have q347 : a1 < (t329.length : Int) := of_decide_eq_true (by first | (with_reducible assumption) | assumption)
                                        obtain ⟨ad347, e347, hx347_0⟩ := Kd.at_bool (Kd.R_reads' HO_8.out).2.2 a1 p347 q347
                                        (try rw [← Nbq68.out] at hx347_0)
                                        cases e347
                                        replace p347 := eq_true p347
                                        replace q347 := eq_true q347
                                        have p348 : 0 ≤ (a1 : Int) := of_decide_eq_true (by first | (with_reducible assumption) | assumption)
                                        have q348 : a1 < (l0.length : Int) := of_decide_eq_true (by first | (with_reducible assumption) | assumption)
                                        obtain ⟨ad348, A348_2, c348_2, e348, hx348_0, hx348_1, hx348_2, hl348_2, hi348_2⟩ := at_T36 HR0.out a1 p348 q348
                                        (try rw [← Nbq68.out] at hx348_0)
                                        obtain rfl : ad341 = ad348 := (by injection e348)
                                        replace hx348_0 := (HB.out.cell (World.block_lt_of_cell? w _ hx348_0)).trans hx348_0
                                        replace hx348_1 := (HB.out.cell (World.block_lt_of_cell? w _ hx348_1)).trans hx348_1
                                        replace hx348_2 := (HB.out.cell (World.block_lt_of_cell? w _ hx348_2)).trans hx348_2
                                        have HR348_2 := Aside0.mk hi348_2
                                        have HC348_2 := Aside0.mk hl348_2
                                        clear hi348_2 hl348_2
                                        replace p348 := eq_true p348
                                        replace q348 := eq_true q348
                                        have p350 : 0 ≤ (a1 : Int) := of_decide_eq_true (by first | (with_reducible assumption) | assumption)
                                        have q350 : a1 < (l0.length : Int) := of_decide_eq_true (by first | (with_reducible assumption) | assumption)
                                        obtain ⟨ad350, A350_2, c350_2, e350, hx350_0, hx350_1, hx350_2, hl350_2, hi350_2⟩ := at_T36 HR0.out a1 p350 q350
                                        (try rw [← Nbq68.out] at hx350_0)
                                        obtain rfl : ad341 = ad350 := (by injection e350)
                                        replace hx350_0 := (HB.out.cell (World.block_lt_of_cell? w _ hx350_0)).trans hx350_0
                                        replace hx350_1 := (HB.out.cell (World.block_lt_of_cell? w _ hx350_1)).trans hx350_1
                                        replace hx350_2 := (HB.out.cell (World.block_lt_of_cell? w _ hx350_2)).trans hx350_2
                                        have HR350_2 := Aside0.mk hi350_2
                                        have HC350_2 := Aside0.mk hl350_2
                                        clear hi350_2 hl350_2
                                        replace p350 := eq_true p350
                                        replace q350 := eq_true q350
                                        have ea_ := Option.some.inj (hx348_2.symm.trans hx350_2)
                                        injection ea_ with ea_ en_ ec_
                                        subst ea_
                                        subst ec_
                                        clear en_
                                        go_wp2
                                        repeat (go_quiet (fail); try go_wp2)
                                        go_ret
                                        exact ⟨by first | rfl | (simp [errW_none, errW_some] <;> rfl) | (simp [*, errW_none, errW_some] <;> rfl), by repeat (first | (with_reducible first | exact HB.out | apply below_alloc | apply pw_below_drewN | apply below_drew1) | exact HB.out)⟩
                                      · rw [if_neg c75] at H
                                        have c75b0 : ((rdOf false t329 a1) == false) = false := by simpa using c75
                                        (try (have c75b1 : decide ((rdOf false t329 a1) = false) = false := by simpa using c75))
                                        (try (have c75b2 : ((rdOf false t329 a1) == false) = false := by simpa using c75))
                                        (try (have c75b3 : ¬ ((rdOf false t329 a1) = false) := by simpa using c75))
                                        clear c75
                                        obtain rfl := Option.some.inj H
                                        obtain ⟨Ao78, co78, eo78⟩ := Kd.R_slice HO_11.out
                                        subst eo78
                                        obtain ⟨Ao79, co79, eo79⟩ := Kd.R_slice HO_8.out
                                        subst eo79
                                        have p347 : 0 ≤ (a1 : Int) := of_decide_eq_true (by first | (with_reducible assumption) | assumption)
                                        have q347 : a1 < (t329.length : Int) := of_decide_eq_true (by first | (with_reducible assumption) | assumption)
                                        obtain ⟨ad347, e347, hx347_0⟩ := Kd.at_bool (Kd.R_reads' HO_8.out).2.2 a1 p347 q347
                                        (try rw [← Nbq68.out] at hx347_0)
                                        cases e347
                                        replace p347 := eq_true p347
                                        replace q347 := eq_true q347
                                        have p348 : 0 ≤ (a1 : Int) := of_decide_eq_true (by first | (with_reducible assumption) | assumption)
                                        have q348 : a1 < (l0.length : Int) := of_decide_eq_true (by first | (with_reducible assumption) | assumption)
                                        obtain ⟨ad348, A348_2, c348_2, e348, hx348_0, hx348_1, hx348_2, hl348_2, hi348_2⟩ := at_T36 HR0.out a1 p348 q348
                                        (try rw [← Nbq68.out] at hx348_0)
                                        obtain rfl : ad341 = ad348 := (by injection e348)
                                        replace hx348_0 := (HB.out.cell (World.block_lt_of_cell? w _ hx348_0)).trans hx348_0
                                        replace hx348_1 := (HB.out.cell (World.block_lt_of_cell? w _ hx348_1)).trans hx348_1
                                        replace hx348_2 := (HB.out.cell (World.block_lt_of_cell? w _ hx348_2)).trans hx348_2
                                        have HR348_2 := Aside0.mk hi348_2
                                        have HC348_2 := Aside0.mk hl348_2
                                        clear hi348_2 hl348_2
                                        replace p348 := eq_true p348
                                        replace q348 := eq_true q348
                                        go_wp2
                                        repeat (go_quiet (fail); try go_wp2)
                                        go_ret
                                        exact ⟨by first | rfl | (simp [errW_none, errW_some] <;> rfl) | (simp [*, errW_none, errW_some] <;> rfl), by repeat (first | (with_reducible first | exact HB.out | apply below_alloc | apply pw_below_drewN | apply below_drew1) | exact HB.out)⟩
                                  · rw [if_neg c67] at H
                                    exact absurd H (by simp)
                                · rw [if_neg c66] at H
                                  exact absurd H (by simp)
                              · rw [if_neg c65] at H
                                exact absurd H (by simp)
                      · rw [if_neg c55] at H
                        exact absurd H (by simp)
                    · rw [if_neg c54] at H
                      exact absurd H (by simp)

end Go.Proofs.Yteekdggainficaa.X
