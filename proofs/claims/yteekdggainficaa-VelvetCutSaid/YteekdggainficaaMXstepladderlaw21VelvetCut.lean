import Derived.Test.YteekdggainficaaMB1
import Derived.Test.YteekdggainficaaMB4
import Derived.Test.YteekdggainficaaMB3
import Derived.Test.YteekdggainficaaMB5
-- By this session's own program (wip/tools/xprint.py), over the kit's print. Not trusted: Lean checks it.
namespace Go.Proofs.Yteekdggainficaa.X
open Go.RowKit Go.Proofs.YteekdggainficaaW.PrintWords Go.Proofs.YteekdggainficaaW.PrintLast Go.Proofs.YteekdggainficaaW.PrintMore
attribute [local go_sem] max2_int min2_int max_two min_two max_three min_three max_four min_four   -- for this text's walks alone
set_option linter.unusedVariables false
set_option linter.unusedSimpArgs false

/-! ### stepladderlaw21_VelvetCut: function 9 -/
mutual
def stepladderlaw21_VelvetCut.j0 : Nat → List (S36) → Int → Bool → Bool → Option (Bool)
  | 0, _, _, _, _ => none
  | k + 1, x0, x1, x5, x33 => if x33 = true then (some x5) else ((velvet_Smooth.f x0).bind fun t359 => (if 0 ≤ x1 then (if x1 ≤ (x0.length : Int) then ((velvet_Smooth.f (x0.take (x1 : Int).toNat)).bind fun t366 => (if (t359.length : Int) = (x0.length : Int) then (stepladderlaw21_VelvetCut.j1 k x1 t359 t366 ((t366.length : Int) != x1)) else (stepladderlaw21_VelvetCut.j1 k x1 t359 t366 true))) else (none)) else (none)))
def stepladderlaw21_VelvetCut.j1 : Nat → Int → List Bool → List Bool → Bool → Option (Bool)
  | 0, _, _, _, _ => none
  | k + 1, x1, x7, x8, x51 => if x51 = true then (some false) else (stepladderlaw21_VelvetCut.l0 k x1 x7 x8 0)
def stepladderlaw21_VelvetCut.l0 : Nat → Int → List Bool → List Bool → Int → Option (Bool)
  | 0, _, _, _, _ => none
  | k + 1, x1, x7, x8, x9 => if x9 < x1 then (if 0 ≤ x9 then (if x9 < (x7.length : Int) then (if x9 < (x8.length : Int) then (if ((rdOf false x7 x9) != (rdOf false x8 x9)) = true then (some false) else (stepladderlaw21_VelvetCut.l0 k x1 x7 x8 (wrap64 (x9 + 1)))) else (none)) else (none)) else (none)) else (some true)
end
def stepladderlaw21_VelvetCut.f (k : Nat) (l0 : List (S36)) (a1 : Int) : Option (Bool) := (stepladderlaw21_awake.f k).bind fun t356 => ((stepladderlaw21_few.f k l0).bind fun t357 => (if t356 = true then (if t357 = true then ((velvet_May.f k l0).bind fun t358 => (if t358 = true then (if a1 < 1 then (stepladderlaw21_VelvetCut.j0 k l0 a1 t356 true) else (stepladderlaw21_VelvetCut.j0 k l0 a1 t356 (decide (a1 > (l0.length : Int))))) else (stepladderlaw21_VelvetCut.j0 k l0 a1 t356 true))) else (stepladderlaw21_VelvetCut.j0 k l0 a1 t356 true)) else (stepladderlaw21_VelvetCut.j0 k l0 a1 t356 true)))
theorem stepladderlaw21_VelvetCut.mono_l : ∀ k, (∀ y0 y1 y2 y3, LeO (stepladderlaw21_VelvetCut.j0 k y0 y1 y2 y3) (stepladderlaw21_VelvetCut.j0 (k + 1) y0 y1 y2 y3)) ∧ (∀ y0 y1 y2 y3, LeO (stepladderlaw21_VelvetCut.j1 k y0 y1 y2 y3) (stepladderlaw21_VelvetCut.j1 (k + 1) y0 y1 y2 y3)) ∧ (∀ y0 y1 y2 y3, LeO (stepladderlaw21_VelvetCut.l0 k y0 y1 y2 y3) (stepladderlaw21_VelvetCut.l0 (k + 1) y0 y1 y2 y3))
  | 0 => ⟨fun _ _ _ _ r h => by simp [stepladderlaw21_VelvetCut.j0] at h, fun _ _ _ _ r h => by simp [stepladderlaw21_VelvetCut.j1] at h, fun _ _ _ _ r h => by simp [stepladderlaw21_VelvetCut.l0] at h⟩
  | k + 1 => by
    obtain ⟨ih0, ih1, ih2⟩ := stepladderlaw21_VelvetCut.mono_l k
    refine ⟨?_, ?_, ?_⟩
    · intro y0 y1 y2 y3
      unfold stepladderlaw21_VelvetCut.j0
      repeat' first
      | (with_reducible exact ih0 _ _ _ _)
      | (with_reducible exact ih1 _ _ _ _)
      | (with_reducible exact ih2 _ _ _ _)
      | (with_reducible exact stepladderlaw21_awake.mono _)
      | (with_reducible exact stepladderlaw21_few.mono _ _)
      | (with_reducible exact velvet_May.mono _ _)
      | (with_reducible exact LeO.refl _)
      | (with_reducible exact LeO.none _)
      | (with_reducible refine LeO.ite ?_ ?_)
      | (with_reducible refine LeO.bind ?_ (fun _ => ?_))
      | exact ih0 _ _ _ _
      | exact ih1 _ _ _ _
      | exact ih2 _ _ _ _
      | exact stepladderlaw21_awake.mono _
      | exact stepladderlaw21_few.mono _ _
      | exact velvet_May.mono _ _
      | exact LeO.none _
      | refine LeO.ite ?_ ?_
      | refine LeO.bind ?_ (fun _ => ?_)
    · intro y0 y1 y2 y3
      unfold stepladderlaw21_VelvetCut.j1
      repeat' first
      | (with_reducible exact ih0 _ _ _ _)
      | (with_reducible exact ih1 _ _ _ _)
      | (with_reducible exact ih2 _ _ _ _)
      | (with_reducible exact stepladderlaw21_awake.mono _)
      | (with_reducible exact stepladderlaw21_few.mono _ _)
      | (with_reducible exact velvet_May.mono _ _)
      | (with_reducible exact LeO.refl _)
      | (with_reducible exact LeO.none _)
      | (with_reducible refine LeO.ite ?_ ?_)
      | (with_reducible refine LeO.bind ?_ (fun _ => ?_))
      | exact ih0 _ _ _ _
      | exact ih1 _ _ _ _
      | exact ih2 _ _ _ _
      | exact stepladderlaw21_awake.mono _
      | exact stepladderlaw21_few.mono _ _
      | exact velvet_May.mono _ _
      | exact LeO.none _
      | refine LeO.ite ?_ ?_
      | refine LeO.bind ?_ (fun _ => ?_)
    · intro y0 y1 y2 y3
      unfold stepladderlaw21_VelvetCut.l0
      repeat' first
      | (with_reducible exact ih0 _ _ _ _)
      | (with_reducible exact ih1 _ _ _ _)
      | (with_reducible exact ih2 _ _ _ _)
      | (with_reducible exact stepladderlaw21_awake.mono _)
      | (with_reducible exact stepladderlaw21_few.mono _ _)
      | (with_reducible exact velvet_May.mono _ _)
      | (with_reducible exact LeO.refl _)
      | (with_reducible exact LeO.none _)
      | (with_reducible refine LeO.ite ?_ ?_)
      | (with_reducible refine LeO.bind ?_ (fun _ => ?_))
      | exact ih0 _ _ _ _
      | exact ih1 _ _ _ _
      | exact ih2 _ _ _ _
      | exact stepladderlaw21_awake.mono _
      | exact stepladderlaw21_few.mono _ _
      | exact velvet_May.mono _ _
      | exact LeO.none _
      | refine LeO.ite ?_ ?_
      | refine LeO.bind ?_ (fun _ => ?_)
theorem stepladderlaw21_VelvetCut.mono : ∀ a0 a1 k, LeO (stepladderlaw21_VelvetCut.f k a0 a1) (stepladderlaw21_VelvetCut.f (k + 1) a0 a1) := by
  intro a0 a1 k
  obtain ⟨ih0, ih1, ih2⟩ := stepladderlaw21_VelvetCut.mono_l k
  unfold stepladderlaw21_VelvetCut.f
  repeat' first
      | (with_reducible exact ih0 _ _ _ _)
      | (with_reducible exact ih1 _ _ _ _)
      | (with_reducible exact ih2 _ _ _ _)
      | (with_reducible exact stepladderlaw21_awake.mono _)
      | (with_reducible exact stepladderlaw21_few.mono _ _)
      | (with_reducible exact velvet_May.mono _ _)
      | (with_reducible exact LeO.refl _)
      | (with_reducible exact LeO.none _)
      | (with_reducible refine LeO.ite ?_ ?_)
      | (with_reducible refine LeO.bind ?_ (fun _ => ?_))
      | exact ih0 _ _ _ _
      | exact ih1 _ _ _ _
      | exact ih2 _ _ _ _
      | exact stepladderlaw21_awake.mono _
      | exact stepladderlaw21_few.mono _ _
      | exact velvet_May.mono _ _
      | exact LeO.none _
      | refine LeO.ite ?_ ?_
      | refine LeO.bind ?_ (fun _ => ?_)
set_option maxHeartbeats 8000000 in
set_option maxRecDepth 100000 in
theorem stepladderlaw21_VelvetCut.calls (k : Nat) (A0 : Option Addr) (c0 : Nat) (l0 : List (S36)) (a1 : Int) (r : Bool) (w : World) (hr0 : Kd.C k36 w A0 l0.length l0) (hc0 : l0.length ≤ c0) (h : stepladderlaw21_VelvetCut.f k l0 a1 = some r) :
    Calls Try.prog 9 #[.slice A0 l0.length c0, .int .i64 a1] w fun e w' => e = .returned (.bool r) ∧ Below w.heap.size w w' := by
  have HR0 := Aside0.mk hr0
  have HC0 := Aside0.mk hc0
  clear hr0 hc0
  have HB := Aside0.mk (Below.refl w.heap.size w)
  have H : ((stepladderlaw21_awake.f k).bind fun t356 => ((stepladderlaw21_few.f k l0).bind fun t357 => (if t356 = true then (if t357 = true then ((velvet_May.f k l0).bind fun t358 => (if t358 = true then (if a1 < 1 then (stepladderlaw21_VelvetCut.j0 k l0 a1 t356 true) else (stepladderlaw21_VelvetCut.j0 k l0 a1 t356 (decide (a1 > (l0.length : Int))))) else (stepladderlaw21_VelvetCut.j0 k l0 a1 t356 true))) else (stepladderlaw21_VelvetCut.j0 k l0 a1 t356 true)) else (stepladderlaw21_VelvetCut.j0 k l0 a1 t356 true)))) = some r := h
  clear h
  replace H := Option.bind_eq_some_iff.mp H
  obtain ⟨t356, A30, H⟩ := H
  replace H : ((stepladderlaw21_few.f k l0).bind fun t357 => (if t356 = true then (if t357 = true then ((velvet_May.f k l0).bind fun t358 => (if t358 = true then (if a1 < 1 then (stepladderlaw21_VelvetCut.j0 k l0 a1 t356 true) else (stepladderlaw21_VelvetCut.j0 k l0 a1 t356 (decide (a1 > (l0.length : Int))))) else (stepladderlaw21_VelvetCut.j0 k l0 a1 t356 true))) else (stepladderlaw21_VelvetCut.j0 k l0 a1 t356 true)) else (stepladderlaw21_VelvetCut.j0 k l0 a1 t356 true))) = some r := H
  have A3 := Aside0.mk A30
  clear A30
  replace H := Option.bind_eq_some_iff.mp H
  obtain ⟨t357, A40, H⟩ := H
  replace H : (if t356 = true then (if t357 = true then ((velvet_May.f k l0).bind fun t358 => (if t358 = true then (if a1 < 1 then (stepladderlaw21_VelvetCut.j0 k l0 a1 t356 true) else (stepladderlaw21_VelvetCut.j0 k l0 a1 t356 (decide (a1 > (l0.length : Int))))) else (stepladderlaw21_VelvetCut.j0 k l0 a1 t356 true))) else (stepladderlaw21_VelvetCut.j0 k l0 a1 t356 true)) else (stepladderlaw21_VelvetCut.j0 k l0 a1 t356 true)) = some r := H
  have A4 := Aside0.mk A40
  clear A40
  have HC5 := Aside0.mk H
  clear H
  go_enter Try.func9, Try.ntmps9
  go_upto_region 3 with (first | (go_at_call 10; (with_reducible refine (stepladderlaw21_awake.calls k  t356 _ A3.out).mono ?_); rintro e w6 ⟨rfl, hb⟩; have n0_ := Aside0.mk (below_step (by repeat (first | (with_reducible first | exact HB.out | apply below_alloc | apply pw_below_drewN | apply below_drew1) | exact HB.out)) hb); clear HB; have HB := n0_; clear n0_; (try clear hb); (try clear hb2); (try clear hk); (try clear hi)) | (go_at_call 11; (with_reducible refine (stepladderlaw21_few.calls k _ _ l0 t357 _ ?side1 ?side2 A4.out).mono ?_); (case side1 => repeat (first | exact (Kd.C_below HR0.out HB.out) | (with_reducible refine Kd.C_alloc ?_ _) | (with_reducible refine Kd.C_drewN ?_ _) | (with_reducible refine Kd.C_drew ?_))); (case side2 => exact HC0.out); rintro e w' ⟨rfl, ⟨nd, rfl⟩⟩; (try first | exact ⟨rfl, _, World.drewN_drewN _ _ _⟩ | exact ⟨rfl, _, Eq.trans (World.drewN_drewN _ _ _) (congrArg (World.drewN _) (Nat.add_assoc _ _ _))⟩)))
  repeat (go_quiet (first | (go_at_call 10; (with_reducible refine (stepladderlaw21_awake.calls k  t356 _ A3.out).mono ?_); rintro e w6 ⟨rfl, hb⟩; have n0_ := Aside0.mk (below_step (by repeat (first | (with_reducible first | exact HB.out | apply below_alloc | apply pw_below_drewN | apply below_drew1) | exact HB.out)) hb); clear HB; have HB := n0_; clear n0_; (try clear hb); (try clear hb2); (try clear hk); (try clear hi)) | (go_at_call 11; (with_reducible refine (stepladderlaw21_few.calls k _ _ l0 t357 _ ?side1 ?side2 A4.out).mono ?_); (case side1 => repeat (first | exact (Kd.C_below HR0.out HB.out) | (with_reducible refine Kd.C_alloc ?_ _) | (with_reducible refine Kd.C_drewN ?_ _) | (with_reducible refine Kd.C_drew ?_))); (case side2 => exact HC0.out); rintro e w' ⟨rfl, ⟨nd, rfl⟩⟩; (try first | exact ⟨rfl, _, World.drewN_drewN _ _ _⟩ | exact ⟨rfl, _, Eq.trans (World.drewN_drewN _ _ _) (congrArg (World.drewN _) (Nat.add_assoc _ _ _))⟩))); go_upto_region 3 with (first | (go_at_call 10; (with_reducible refine (stepladderlaw21_awake.calls k  t356 _ A3.out).mono ?_); rintro e w6 ⟨rfl, hb⟩; have n0_ := Aside0.mk (below_step (by repeat (first | (with_reducible first | exact HB.out | apply below_alloc | apply pw_below_drewN | apply below_drew1) | exact HB.out)) hb); clear HB; have HB := n0_; clear n0_; (try clear hb); (try clear hb2); (try clear hk); (try clear hi)) | (go_at_call 11; (with_reducible refine (stepladderlaw21_few.calls k _ _ l0 t357 _ ?side1 ?side2 A4.out).mono ?_); (case side1 => repeat (first | exact (Kd.C_below HR0.out HB.out) | (with_reducible refine Kd.C_alloc ?_ _) | (with_reducible refine Kd.C_drewN ?_ _) | (with_reducible refine Kd.C_drew ?_))); (case side2 => exact HC0.out); rintro e w' ⟨rfl, ⟨nd, rfl⟩⟩; (try first | exact ⟨rfl, _, World.drewN_drewN _ _ _⟩ | exact ⟨rfl, _, Eq.trans (World.drewN_drewN _ _ _) (congrArg (World.drewN _) (Nat.add_assoc _ _ _))⟩))))
  (try simp only [Act.put, List.setIfInBounds_toArray, List.set_cons_zero, List.set_cons_succ])
  go_cut [33] (fun v33 wc => ∃ (kq : Nat) (x33_4 : Bool), v33 = .bool x33_4 ∧ Aside0 (stepladderlaw21_VelvetCut.j0 kq l0 a1 t356 x33_4 = some r) ∧ Aside0 (kq ≤ k) ∧ Aside0 (Below w.heap.size w wc))
  case first =>
    have H := HC5.out
    clear HC5
    by_cases c7 : t356 = true
    · subst c7
      have H1 : (if t357 = true then ((velvet_May.f k l0).bind fun t358 => (if t358 = true then (if a1 < 1 then (stepladderlaw21_VelvetCut.j0 k l0 a1 true true) else (stepladderlaw21_VelvetCut.j0 k l0 a1 true (decide (a1 > (l0.length : Int))))) else (stepladderlaw21_VelvetCut.j0 k l0 a1 true true))) else (stepladderlaw21_VelvetCut.j0 k l0 a1 true true)) = some r := by rw [if_pos rfl] at H; exact H
      clear H
      have H := H1
      clear H1
      by_cases c8 : t357 = true
      · subst c8
        have H1 : ((velvet_May.f k l0).bind fun t358 => (if t358 = true then (if a1 < 1 then (stepladderlaw21_VelvetCut.j0 k l0 a1 true true) else (stepladderlaw21_VelvetCut.j0 k l0 a1 true (decide (a1 > (l0.length : Int))))) else (stepladderlaw21_VelvetCut.j0 k l0 a1 true true))) = some r := by rw [if_pos rfl] at H; exact H
        clear H
        have H := H1
        clear H1
        replace H := Option.bind_eq_some_iff.mp H
        obtain ⟨t358, A90, H⟩ := H
        replace H : (if t358 = true then (if a1 < 1 then (stepladderlaw21_VelvetCut.j0 k l0 a1 true true) else (stepladderlaw21_VelvetCut.j0 k l0 a1 true (decide (a1 > (l0.length : Int))))) else (stepladderlaw21_VelvetCut.j0 k l0 a1 true true)) = some r := H
        have A9 := Aside0.mk A90
        clear A90
        by_cases c10 : t358 = true
        · subst c10
          have H1 : (if a1 < 1 then (stepladderlaw21_VelvetCut.j0 k l0 a1 true true) else (stepladderlaw21_VelvetCut.j0 k l0 a1 true (decide (a1 > (l0.length : Int))))) = some r := by rw [if_pos rfl] at H; exact H
          clear H
          have H := H1
          clear H1
          by_cases c11 : a1 < 1
          · rw [if_pos c11] at H
            have c11b0 : decide (a1 < 1) = true := decide_eq_true c11
            clear c11
            (first | rw [c11b0] | (simp only [i64_w, i32_w]; rw [c11b0]) | skip)
            have H' := Aside0.mk H
            clear H
            go_wp2_with (first | (go_at_call 23; (with_reducible refine (velvet_May.calls k _ _ l0 true _ ?side1 ?side2 A9.out).mono ?_); (case side1 => repeat (first | exact (Kd.C_below HR0.out HB.out) | (with_reducible refine Kd.C_alloc ?_ _) | (with_reducible refine Kd.C_drewN ?_ _) | (with_reducible refine Kd.C_drew ?_))); (case side2 => exact HC0.out); rintro e w12 ⟨rfl, hb⟩; have n0_ := Aside0.mk (below_step (by repeat (first | (with_reducible first | exact HB.out | apply below_alloc | apply pw_below_drewN | apply below_drew1) | exact HB.out)) hb); clear HB; have HB := n0_; clear n0_; (try clear hb); (try clear hb2); (try clear hk); (try clear hi)))
            repeat (go_quiet (first | (go_at_call 23; (with_reducible refine (velvet_May.calls k _ _ l0 true _ ?side1 ?side2 A9.out).mono ?_); (case side1 => repeat (first | exact (Kd.C_below HR0.out HB.out) | (with_reducible refine Kd.C_alloc ?_ _) | (with_reducible refine Kd.C_drewN ?_ _) | (with_reducible refine Kd.C_drew ?_))); (case side2 => exact HC0.out); rintro e w12 ⟨rfl, hb⟩; have n0_ := Aside0.mk (below_step (by repeat (first | (with_reducible first | exact HB.out | apply below_alloc | apply pw_below_drewN | apply below_drew1) | exact HB.out)) hb); clear HB; have HB := n0_; clear n0_; (try clear hb); (try clear hb2); (try clear hk); (try clear hi))); try go_wp2_with (first | (go_at_call 23; (with_reducible refine (velvet_May.calls k _ _ l0 true _ ?side1 ?side2 A9.out).mono ?_); (case side1 => repeat (first | exact (Kd.C_below HR0.out HB.out) | (with_reducible refine Kd.C_alloc ?_ _) | (with_reducible refine Kd.C_drewN ?_ _) | (with_reducible refine Kd.C_drew ?_))); (case side2 => exact HC0.out); rintro e w12 ⟨rfl, hb⟩; have n0_ := Aside0.mk (below_step (by repeat (first | (with_reducible first | exact HB.out | apply below_alloc | apply pw_below_drewN | apply below_drew1) | exact HB.out)) hb); clear HB; have HB := n0_; clear n0_; (try clear hb); (try clear hb2); (try clear hk); (try clear hi))))
            go_meet
            case rel => exact ⟨_, (true), (by first | rfl | (simp; done) | (simp [*]; done)), H', ⟨by first | omega | exact Nat.le_refl _⟩, ⟨by repeat (first | (with_reducible first | exact HB.out | apply below_alloc | apply pw_below_drewN | apply below_drew1) | exact HB.out)⟩⟩
          · rw [if_neg c11] at H
            have c11b0 : decide (a1 < 1) = false := decide_eq_false c11
            clear c11
            (first | rw [c11b0] | (simp only [i64_w, i32_w]; rw [c11b0]) | skip)
            have H' := Aside0.mk H
            clear H
            go_wp2_with (first | (go_at_call 23; (with_reducible refine (velvet_May.calls k _ _ l0 true _ ?side1 ?side2 A9.out).mono ?_); (case side1 => repeat (first | exact (Kd.C_below HR0.out HB.out) | (with_reducible refine Kd.C_alloc ?_ _) | (with_reducible refine Kd.C_drewN ?_ _) | (with_reducible refine Kd.C_drew ?_))); (case side2 => exact HC0.out); rintro e w13 ⟨rfl, hb⟩; have n0_ := Aside0.mk (below_step (by repeat (first | (with_reducible first | exact HB.out | apply below_alloc | apply pw_below_drewN | apply below_drew1) | exact HB.out)) hb); clear HB; have HB := n0_; clear n0_; (try clear hb); (try clear hb2); (try clear hk); (try clear hi)))
            repeat (go_quiet (first | (go_at_call 23; (with_reducible refine (velvet_May.calls k _ _ l0 true _ ?side1 ?side2 A9.out).mono ?_); (case side1 => repeat (first | exact (Kd.C_below HR0.out HB.out) | (with_reducible refine Kd.C_alloc ?_ _) | (with_reducible refine Kd.C_drewN ?_ _) | (with_reducible refine Kd.C_drew ?_))); (case side2 => exact HC0.out); rintro e w13 ⟨rfl, hb⟩; have n0_ := Aside0.mk (below_step (by repeat (first | (with_reducible first | exact HB.out | apply below_alloc | apply pw_below_drewN | apply below_drew1) | exact HB.out)) hb); clear HB; have HB := n0_; clear n0_; (try clear hb); (try clear hb2); (try clear hk); (try clear hi))); try go_wp2_with (first | (go_at_call 23; (with_reducible refine (velvet_May.calls k _ _ l0 true _ ?side1 ?side2 A9.out).mono ?_); (case side1 => repeat (first | exact (Kd.C_below HR0.out HB.out) | (with_reducible refine Kd.C_alloc ?_ _) | (with_reducible refine Kd.C_drewN ?_ _) | (with_reducible refine Kd.C_drew ?_))); (case side2 => exact HC0.out); rintro e w13 ⟨rfl, hb⟩; have n0_ := Aside0.mk (below_step (by repeat (first | (with_reducible first | exact HB.out | apply below_alloc | apply pw_below_drewN | apply below_drew1) | exact HB.out)) hb); clear HB; have HB := n0_; clear n0_; (try clear hb); (try clear hb2); (try clear hk); (try clear hi))))
            go_meet
            case rel => exact ⟨_, (decide (a1 > (l0.length : Int))), (by first | rfl | (simp; done) | (simp [*]; done)), H', ⟨by first | omega | exact Nat.le_refl _⟩, ⟨by repeat (first | (with_reducible first | exact HB.out | apply below_alloc | apply pw_below_drewN | apply below_drew1) | exact HB.out)⟩⟩
        · replace c10 := Bool.eq_false_iff.mpr c10
          subst c10
          have H1 : (stepladderlaw21_VelvetCut.j0 k l0 a1 true true) = some r := by rw [if_neg (show ¬ (false = true) by decide)] at H; exact H
          clear H
          have H := H1
          clear H1
          have H' := Aside0.mk H
          clear H
          go_wp2_with (first | (go_at_call 23; (with_reducible refine (velvet_May.calls k _ _ l0 false _ ?side1 ?side2 A9.out).mono ?_); (case side1 => repeat (first | exact (Kd.C_below HR0.out HB.out) | (with_reducible refine Kd.C_alloc ?_ _) | (with_reducible refine Kd.C_drewN ?_ _) | (with_reducible refine Kd.C_drew ?_))); (case side2 => exact HC0.out); rintro e w14 ⟨rfl, hb⟩; have n0_ := Aside0.mk (below_step (by repeat (first | (with_reducible first | exact HB.out | apply below_alloc | apply pw_below_drewN | apply below_drew1) | exact HB.out)) hb); clear HB; have HB := n0_; clear n0_; (try clear hb); (try clear hb2); (try clear hk); (try clear hi)))
          repeat (go_quiet (first | (go_at_call 23; (with_reducible refine (velvet_May.calls k _ _ l0 false _ ?side1 ?side2 A9.out).mono ?_); (case side1 => repeat (first | exact (Kd.C_below HR0.out HB.out) | (with_reducible refine Kd.C_alloc ?_ _) | (with_reducible refine Kd.C_drewN ?_ _) | (with_reducible refine Kd.C_drew ?_))); (case side2 => exact HC0.out); rintro e w14 ⟨rfl, hb⟩; have n0_ := Aside0.mk (below_step (by repeat (first | (with_reducible first | exact HB.out | apply below_alloc | apply pw_below_drewN | apply below_drew1) | exact HB.out)) hb); clear HB; have HB := n0_; clear n0_; (try clear hb); (try clear hb2); (try clear hk); (try clear hi))); try go_wp2_with (first | (go_at_call 23; (with_reducible refine (velvet_May.calls k _ _ l0 false _ ?side1 ?side2 A9.out).mono ?_); (case side1 => repeat (first | exact (Kd.C_below HR0.out HB.out) | (with_reducible refine Kd.C_alloc ?_ _) | (with_reducible refine Kd.C_drewN ?_ _) | (with_reducible refine Kd.C_drew ?_))); (case side2 => exact HC0.out); rintro e w14 ⟨rfl, hb⟩; have n0_ := Aside0.mk (below_step (by repeat (first | (with_reducible first | exact HB.out | apply below_alloc | apply pw_below_drewN | apply below_drew1) | exact HB.out)) hb); clear HB; have HB := n0_; clear n0_; (try clear hb); (try clear hb2); (try clear hk); (try clear hi))))
          go_meet
          case rel => exact ⟨_, (true), (by first | rfl | (simp; done) | (simp [*]; done)), H', ⟨by first | omega | exact Nat.le_refl _⟩, ⟨by repeat (first | (with_reducible first | exact HB.out | apply below_alloc | apply pw_below_drewN | apply below_drew1) | exact HB.out)⟩⟩
      · replace c8 := Bool.eq_false_iff.mpr c8
        subst c8
        have H1 : (stepladderlaw21_VelvetCut.j0 k l0 a1 true true) = some r := by rw [if_neg (show ¬ (false = true) by decide)] at H; exact H
        clear H
        have H := H1
        clear H1
        have H' := Aside0.mk H
        clear H
        go_wp2
        repeat (go_quiet (fail); try go_wp2)
        go_meet
        case rel => exact ⟨_, (true), (by first | rfl | (simp; done) | (simp [*]; done)), H', ⟨by first | omega | exact Nat.le_refl _⟩, ⟨by repeat (first | (with_reducible first | exact HB.out | apply below_alloc | apply pw_below_drewN | apply below_drew1) | exact HB.out)⟩⟩
    · replace c7 := Bool.eq_false_iff.mpr c7
      subst c7
      have H1 : (stepladderlaw21_VelvetCut.j0 k l0 a1 false true) = some r := by rw [if_neg (show ¬ (false = true) by decide)] at H; exact H
      clear H
      have H := H1
      clear H1
      have H' := Aside0.mk H
      clear H
      go_wp2
      repeat (go_quiet (fail); try go_wp2)
      go_meet
      case rel => exact ⟨_, (true), (by first | rfl | (simp; done) | (simp [*]; done)), H', ⟨by first | omega | exact Nat.le_refl _⟩, ⟨by repeat (first | (with_reducible first | exact HB.out | apply below_alloc | apply pw_below_drewN | apply below_drew1) | exact HB.out)⟩⟩
  case rest =>
    clear HC5
    try clear c1
    try clear p2
    try clear c7
    try clear c8
    try clear c9
    try clear c10
    try clear c11
    try clear c11b0
    obtain ⟨kq, x33_4, rfl, HA, HJ4, HB⟩ := hcut
    cases kq with
    | zero => exact absurd HA.out (by simp [stepladderlaw21_VelvetCut.j0])
    | succ kj4 =>
      have H := HA.out
      clear HA
      simp only [stepladderlaw21_VelvetCut.j0] at H
      by_cases c15 : x33_4 = true
      · subst c15
        have H1 : (some t356) = some r := by rw [if_pos rfl] at H; exact H
        clear H
        have H := H1
        clear H1
        obtain rfl := Option.some.inj H
        go_wp2
        repeat (go_quiet (fail); try go_wp2)
        go_ret
        exact ⟨by first | rfl | (simp [errW_none, errW_some] <;> rfl) | (simp [*, errW_none, errW_some] <;> rfl), by repeat (first | (with_reducible first | exact HB.out | apply below_alloc | apply pw_below_drewN | apply below_drew1) | exact HB.out)⟩
      · replace c15 := Bool.eq_false_iff.mpr c15
        subst c15
        have H1 : ((velvet_Smooth.f l0).bind fun t359 => (if 0 ≤ a1 then (if a1 ≤ (l0.length : Int) then ((velvet_Smooth.f (l0.take (a1 : Int).toNat)).bind fun t366 => (if (t359.length : Int) = (l0.length : Int) then (stepladderlaw21_VelvetCut.j1 kj4 a1 t359 t366 ((t366.length : Int) != a1)) else (stepladderlaw21_VelvetCut.j1 kj4 a1 t359 t366 true))) else (none)) else (none))) = some r := by rw [if_neg (show ¬ (false = true) by decide)] at H; exact H
        clear H
        have H := H1
        clear H1
        replace H := Option.bind_eq_some_iff.mp H
        obtain ⟨t359, A160, H⟩ := H
        replace H : (if 0 ≤ a1 then (if a1 ≤ (l0.length : Int) then ((velvet_Smooth.f (l0.take (a1 : Int).toNat)).bind fun t366 => (if (t359.length : Int) = (l0.length : Int) then (stepladderlaw21_VelvetCut.j1 kj4 a1 t359 t366 ((t366.length : Int) != a1)) else (stepladderlaw21_VelvetCut.j1 kj4 a1 t359 t366 true))) else (none)) else (none)) = some r := H
        have A16 := Aside0.mk A160
        clear A160
        by_cases c17 : 0 ≤ a1
        · rw [if_pos c17] at H
          have c17b0 := eq_true c17
          have c17b1 : decide (0 ≤ a1) = true := decide_eq_true c17
          clear c17
          by_cases c18 : a1 ≤ (l0.length : Int)
          · rw [if_pos c18] at H
            have c18b0 := eq_true c18
            have c18b1 : decide (a1 ≤ (l0.length : Int)) = true := decide_eq_true c18
            clear c18
            obtain ⟨y362, hy362⟩ : ∃ y_ : List (S36), y_ = (l0.take (a1 : Int).toNat) := ⟨_, rfl⟩
            replace H : ((velvet_Smooth.f y362).bind fun t366 => (if (t359.length : Int) = (l0.length : Int) then (stepladderlaw21_VelvetCut.j1 kj4 a1 t359 t366 ((t366.length : Int) != a1)) else (stepladderlaw21_VelvetCut.j1 kj4 a1 t359 t366 true))) = some r := by first | (rw [hy362]; with_reducible exact H) | (have H2_ := (Option.bind_some _ _).symm.trans H; rw [hy362]; with_reducible exact H2_) | (have H2_ := (Option.bind_some _ _).symm.trans H; with_reducible exact H2_) | with_reducible exact H | (rw [hy362]; exact H) | exact H
            have Ny362 := Aside0.mk hy362
            clear hy362
            replace H := Option.bind_eq_some_iff.mp H
            obtain ⟨t366, A190, H⟩ := H
            replace H : (if (t359.length : Int) = (l0.length : Int) then (stepladderlaw21_VelvetCut.j1 kj4 a1 t359 t366 ((t366.length : Int) != a1)) else (stepladderlaw21_VelvetCut.j1 kj4 a1 t359 t366 true)) = some r := H
            have A19 := Aside0.mk A190
            clear A190
            have HC20 := Aside0.mk H
            clear H
            go_upto_region 7 with (first | (go_at_call 16; (with_reducible refine (velvet_Smooth.calls _ _ l0 t359 _ ?side1 ?side2 A16.out).mono ?_); (case side1 => repeat (first | exact (Kd.C_below HR0.out HB.out) | (with_reducible refine Kd.C_alloc ?_ _) | (with_reducible refine Kd.C_drewN ?_ _) | (with_reducible refine Kd.C_drew ?_))); (case side2 => exact HC0.out); rintro e w21 ⟨v360, rfl, ho0, hb⟩; have n0_ := Aside0.mk (Kd.R_lower ho0 (below_size (by repeat (first | (with_reducible first | exact HB.out | apply below_alloc | apply pw_below_drewN | apply below_drew1) | exact HB.out)))); have n1_ := Aside0.mk (below_step (by repeat (first | (with_reducible first | exact HB.out | apply below_alloc | apply pw_below_drewN | apply below_drew1) | exact HB.out)) hb); clear HB; have HO361 := n0_; have HB := n1_; clear n0_ n1_; (try clear hb); (try clear hb2); (try clear hk); (try clear hi); (try clear ho0); have q22 : (a1 : Int) ≤ ((l0.length : Int) : Int) := of_decide_eq_true (by first | (with_reducible assumption) | assumption); obtain ⟨i022, hi022, _, hsz22, _⟩ := info_parts info36; have hroom22 : l0.length ≤ c0 := HC0.out; have hC22 : Kd.C k36 _ A0 l0.length l0 := HR0.out; have hcut22 := cut_to (P := Try.prog) 22 36 .i64 Try.underlying22 hi022 A0 l0.length c0 a1 (of_decide_eq_true (by first | (with_reducible assumption) | assumption)) q22 hroom22; have hr22 := Kd.C_take (m := (a1 : Int).toNat) hC22 (by omega); have hy22 : y362.length = (a1 : Int).toNat := (by rw [Ny362.out, List.length_take]; omega); rw [← Ny362.out] at hr22; rw [← hy22] at hcut22; have HR365 := Aside0.mk hr22; have HC365 := Aside0.mk (show y362.length ≤ c0 from by omega); clear hr22 hC22 hroom22 hi022 hsz22; have KY22 := Aside0.mk hy22; clear hy22; replace q22 := eq_true q22) | (go_at_call 16; (with_reducible refine (velvet_Smooth.calls _ _ y362 t366 _ ?side1 ?side2 A19.out).mono ?_); (case side1 => repeat (first | exact (Kd.C_below HR365.out HB.out) | (with_reducible refine Kd.C_alloc ?_ _) | (with_reducible refine Kd.C_drewN ?_ _) | (with_reducible refine Kd.C_drew ?_))); (case side2 => exact HC365.out); rintro e w23 ⟨v367, rfl, ho0, hb⟩; have n0_ := Aside0.mk (Kd.R_elder' (by (with_reducible repeat (first | apply Kd.R_alloc | apply Kd.R_drewN | apply Kd.R_drew)); exact HO361.out) (Kd.R_base ho0) hb); have n1_ := Aside0.mk (Kd.R_lower (Kd.R_new' ho0 (Kd.R_lt (by (with_reducible repeat (first | apply Kd.R_alloc | apply Kd.R_drewN | apply Kd.R_drew)); exact HO361.out))) (below_size (by repeat (first | (with_reducible first | exact HB.out | apply below_alloc | apply pw_below_drewN | apply below_drew1) | exact HB.out)))); have n2_ := Aside0.mk (below_step (by repeat (first | (with_reducible first | exact HB.out | apply below_alloc | apply pw_below_drewN | apply below_drew1) | exact HB.out)) hb); clear HO361; clear HB; have HO361 := n0_; have HO368 := n1_; have HB := n2_; clear n0_ n1_ n2_; (try clear hb); (try clear hb2); (try clear hk); (try clear hi); (try clear ho0)))
            repeat (go_quiet (first | (go_at_call 16; (with_reducible refine (velvet_Smooth.calls _ _ l0 t359 _ ?side1 ?side2 A16.out).mono ?_); (case side1 => repeat (first | exact (Kd.C_below HR0.out HB.out) | (with_reducible refine Kd.C_alloc ?_ _) | (with_reducible refine Kd.C_drewN ?_ _) | (with_reducible refine Kd.C_drew ?_))); (case side2 => exact HC0.out); rintro e w21 ⟨v360, rfl, ho0, hb⟩; have n0_ := Aside0.mk (Kd.R_lower ho0 (below_size (by repeat (first | (with_reducible first | exact HB.out | apply below_alloc | apply pw_below_drewN | apply below_drew1) | exact HB.out)))); have n1_ := Aside0.mk (below_step (by repeat (first | (with_reducible first | exact HB.out | apply below_alloc | apply pw_below_drewN | apply below_drew1) | exact HB.out)) hb); clear HB; have HO361 := n0_; have HB := n1_; clear n0_ n1_; (try clear hb); (try clear hb2); (try clear hk); (try clear hi); (try clear ho0); have q22 : (a1 : Int) ≤ ((l0.length : Int) : Int) := of_decide_eq_true (by first | (with_reducible assumption) | assumption); obtain ⟨i022, hi022, _, hsz22, _⟩ := info_parts info36; have hroom22 : l0.length ≤ c0 := HC0.out; have hC22 : Kd.C k36 _ A0 l0.length l0 := HR0.out; have hcut22 := cut_to (P := Try.prog) 22 36 .i64 Try.underlying22 hi022 A0 l0.length c0 a1 (of_decide_eq_true (by first | (with_reducible assumption) | assumption)) q22 hroom22; have hr22 := Kd.C_take (m := (a1 : Int).toNat) hC22 (by omega); have hy22 : y362.length = (a1 : Int).toNat := (by rw [Ny362.out, List.length_take]; omega); rw [← Ny362.out] at hr22; rw [← hy22] at hcut22; have HR365 := Aside0.mk hr22; have HC365 := Aside0.mk (show y362.length ≤ c0 from by omega); clear hr22 hC22 hroom22 hi022 hsz22; have KY22 := Aside0.mk hy22; clear hy22; replace q22 := eq_true q22) | (go_at_call 16; (with_reducible refine (velvet_Smooth.calls _ _ y362 t366 _ ?side1 ?side2 A19.out).mono ?_); (case side1 => repeat (first | exact (Kd.C_below HR365.out HB.out) | (with_reducible refine Kd.C_alloc ?_ _) | (with_reducible refine Kd.C_drewN ?_ _) | (with_reducible refine Kd.C_drew ?_))); (case side2 => exact HC365.out); rintro e w23 ⟨v367, rfl, ho0, hb⟩; have n0_ := Aside0.mk (Kd.R_elder' (by (with_reducible repeat (first | apply Kd.R_alloc | apply Kd.R_drewN | apply Kd.R_drew)); exact HO361.out) (Kd.R_base ho0) hb); have n1_ := Aside0.mk (Kd.R_lower (Kd.R_new' ho0 (Kd.R_lt (by (with_reducible repeat (first | apply Kd.R_alloc | apply Kd.R_drewN | apply Kd.R_drew)); exact HO361.out))) (below_size (by repeat (first | (with_reducible first | exact HB.out | apply below_alloc | apply pw_below_drewN | apply below_drew1) | exact HB.out)))); have n2_ := Aside0.mk (below_step (by repeat (first | (with_reducible first | exact HB.out | apply below_alloc | apply pw_below_drewN | apply below_drew1) | exact HB.out)) hb); clear HO361; clear HB; have HO361 := n0_; have HO368 := n1_; have HB := n2_; clear n0_ n1_ n2_; (try clear hb); (try clear hb2); (try clear hk); (try clear hi); (try clear ho0))); go_upto_region 7 with (first | (go_at_call 16; (with_reducible refine (velvet_Smooth.calls _ _ l0 t359 _ ?side1 ?side2 A16.out).mono ?_); (case side1 => repeat (first | exact (Kd.C_below HR0.out HB.out) | (with_reducible refine Kd.C_alloc ?_ _) | (with_reducible refine Kd.C_drewN ?_ _) | (with_reducible refine Kd.C_drew ?_))); (case side2 => exact HC0.out); rintro e w21 ⟨v360, rfl, ho0, hb⟩; have n0_ := Aside0.mk (Kd.R_lower ho0 (below_size (by repeat (first | (with_reducible first | exact HB.out | apply below_alloc | apply pw_below_drewN | apply below_drew1) | exact HB.out)))); have n1_ := Aside0.mk (below_step (by repeat (first | (with_reducible first | exact HB.out | apply below_alloc | apply pw_below_drewN | apply below_drew1) | exact HB.out)) hb); clear HB; have HO361 := n0_; have HB := n1_; clear n0_ n1_; (try clear hb); (try clear hb2); (try clear hk); (try clear hi); (try clear ho0); have q22 : (a1 : Int) ≤ ((l0.length : Int) : Int) := of_decide_eq_true (by first | (with_reducible assumption) | assumption); obtain ⟨i022, hi022, _, hsz22, _⟩ := info_parts info36; have hroom22 : l0.length ≤ c0 := HC0.out; have hC22 : Kd.C k36 _ A0 l0.length l0 := HR0.out; have hcut22 := cut_to (P := Try.prog) 22 36 .i64 Try.underlying22 hi022 A0 l0.length c0 a1 (of_decide_eq_true (by first | (with_reducible assumption) | assumption)) q22 hroom22; have hr22 := Kd.C_take (m := (a1 : Int).toNat) hC22 (by omega); have hy22 : y362.length = (a1 : Int).toNat := (by rw [Ny362.out, List.length_take]; omega); rw [← Ny362.out] at hr22; rw [← hy22] at hcut22; have HR365 := Aside0.mk hr22; have HC365 := Aside0.mk (show y362.length ≤ c0 from by omega); clear hr22 hC22 hroom22 hi022 hsz22; have KY22 := Aside0.mk hy22; clear hy22; replace q22 := eq_true q22) | (go_at_call 16; (with_reducible refine (velvet_Smooth.calls _ _ y362 t366 _ ?side1 ?side2 A19.out).mono ?_); (case side1 => repeat (first | exact (Kd.C_below HR365.out HB.out) | (with_reducible refine Kd.C_alloc ?_ _) | (with_reducible refine Kd.C_drewN ?_ _) | (with_reducible refine Kd.C_drew ?_))); (case side2 => exact HC365.out); rintro e w23 ⟨v367, rfl, ho0, hb⟩; have n0_ := Aside0.mk (Kd.R_elder' (by (with_reducible repeat (first | apply Kd.R_alloc | apply Kd.R_drewN | apply Kd.R_drew)); exact HO361.out) (Kd.R_base ho0) hb); have n1_ := Aside0.mk (Kd.R_lower (Kd.R_new' ho0 (Kd.R_lt (by (with_reducible repeat (first | apply Kd.R_alloc | apply Kd.R_drewN | apply Kd.R_drew)); exact HO361.out))) (below_size (by repeat (first | (with_reducible first | exact HB.out | apply below_alloc | apply pw_below_drewN | apply below_drew1) | exact HB.out)))); have n2_ := Aside0.mk (below_step (by repeat (first | (with_reducible first | exact HB.out | apply below_alloc | apply pw_below_drewN | apply below_drew1) | exact HB.out)) hb); clear HO361; clear HB; have HO361 := n0_; have HO368 := n1_; have HB := n2_; clear n0_ n1_ n2_; (try clear hb); (try clear hb2); (try clear hk); (try clear hi); (try clear ho0))))
            (try simp only [Act.put, List.setIfInBounds_toArray, List.set_cons_zero, List.set_cons_succ])
            go_cut [51] (fun v51 wc => ∃ (kq : Nat) (x51_19 : Bool), v51 = .bool x51_19 ∧ Aside0 (stepladderlaw21_VelvetCut.j1 kq a1 t359 t366 x51_19 = some r) ∧ Aside0 (kq ≤ kj4) ∧ Aside0 (Kd.R Kd.bool 4 wc w.heap.size (fun k_ => some k_ ≠ (v367 : Value).ownBlock) v360 t359) ∧ Aside0 (Kd.R Kd.bool 4 wc w.heap.size (fun k_ => some k_ ≠ (v360 : Value).ownBlock) v367 t366) ∧ Aside0 (Below w.heap.size w wc))
            case first =>
              have H := HC20.out
              clear HC20
              by_cases c24 : (t359.length : Int) = (l0.length : Int)
              · rw [if_pos c24] at H
                have c24b0 : ((t359.length : Int) == (l0.length : Int)) = true := beq_iff_eq.mpr c24
                have c24b1 : ((t359.length : Int) != (l0.length : Int)) = false := bne_eq_false_iff_eq.mpr c24
                have c24b2 : (t359.length == l0.length) = true := by first | simpa using c24 | (simp at c24 ⊢; omega)
                clear c24
                (first | rw [c24b0] | (simp only [i64_w, i32_w]; rw [c24b0]) | skip)
                have H' := Aside0.mk H
                clear H
                obtain ⟨Ao25, co25, eo25⟩ := Kd.R_slice HO361.out
                subst eo25
                obtain ⟨Ao26, co26, eo26⟩ := Kd.R_slice HO368.out
                subst eo26
                go_wp2
                repeat (go_quiet (fail); try go_wp2)
                go_meet
                case rel => exact ⟨_, (((t366.length : Int) != a1)), (by first | rfl | (simp; done) | (simp [*]; done)), H', ⟨by have := HJ4.out; first | omega | exact Nat.le_refl _⟩, ⟨by (with_reducible repeat (first | apply Kd.R_alloc | apply Kd.R_drewN | apply Kd.R_drew)); exact Kd.R_mono HO361.out (fun _ hk => hk.2)⟩, ⟨by (with_reducible repeat (first | apply Kd.R_alloc | apply Kd.R_drewN | apply Kd.R_drew)); exact Kd.R_mono HO368.out (fun _ hk => hk.2)⟩, ⟨by repeat (first | (with_reducible first | exact HB.out | apply below_alloc | apply pw_below_drewN | apply below_drew1) | exact HB.out)⟩⟩
              · rw [if_neg c24] at H
                have c24b0 : ((t359.length : Int) == (l0.length : Int)) = false := beq_eq_false_iff_ne.mpr c24
                have c24b1 : ((t359.length : Int) != (l0.length : Int)) = true := bne_iff_ne.mpr c24
                have c24b2 : (t359.length == l0.length) = false := by first | simpa using c24 | (simp at c24 ⊢; omega)
                (first | rw [c24b0] | (simp only [i64_w, i32_w]; rw [c24b0]) | skip)
                have H' := Aside0.mk H
                clear H
                obtain ⟨Ao27, co27, eo27⟩ := Kd.R_slice HO361.out
                subst eo27
                go_wp2
                repeat (go_quiet (fail); try go_wp2)
                go_meet
                case rel => exact ⟨_, (true), (by first | rfl | (simp; done) | (simp [*]; done)), H', ⟨by have := HJ4.out; first | omega | exact Nat.le_refl _⟩, ⟨by (with_reducible repeat (first | apply Kd.R_alloc | apply Kd.R_drewN | apply Kd.R_drew)); exact Kd.R_mono HO361.out (fun _ hk => hk.2)⟩, ⟨by (with_reducible repeat (first | apply Kd.R_alloc | apply Kd.R_drewN | apply Kd.R_drew)); exact Kd.R_mono HO368.out (fun _ hk => hk.2)⟩, ⟨by repeat (first | (with_reducible first | exact HB.out | apply below_alloc | apply pw_below_drewN | apply below_drew1) | exact HB.out)⟩⟩
            case rest =>
              clear HC20
              try clear c1
              try clear c2
              try clear p2
              try clear q2
              try clear c7
              try clear c8
              try clear c9
              try clear c10
              try clear c11
              try clear c11b0
              try clear c15
              try clear c17
              try clear c17b0
              try clear c17b1
              try clear c18
              try clear c18b0
              try clear c18b1
              try clear q22
              try clear c24
              try clear c24b0
              try clear c24b1
              try clear c24b2
              try clear p2
              try clear q22
              obtain ⟨kq, x51_19, rfl, HA, HJ19, HO_7, HO_8, HB⟩ := hcut
              cases kq with
              | zero => exact absurd HA.out (by simp [stepladderlaw21_VelvetCut.j1])
              | succ kj19 =>
                have H := HA.out
                clear HA
                simp only [stepladderlaw21_VelvetCut.j1] at H
                by_cases c28 : x51_19 = true
                · subst c28
                  have H1 : (some false) = some r := by rw [if_pos rfl] at H; exact H
                  clear H
                  have H := H1
                  clear H1
                  obtain rfl := Option.some.inj H
                  go_wp2
                  repeat (go_quiet (fail); try go_wp2)
                  go_ret
                  exact ⟨by first | rfl | (simp [errW_none, errW_some] <;> rfl) | (simp [*, errW_none, errW_some] <;> rfl), by repeat (first | (with_reducible first | exact HB.out | apply below_alloc | apply pw_below_drewN | apply below_drew1) | exact HB.out)⟩
                · replace c28 := Bool.eq_false_iff.mpr c28
                  subst c28
                  have H1 : (stepladderlaw21_VelvetCut.l0 kj19 a1 t359 t366 0) = some r := by rw [if_neg (show ¬ (false = true) by decide)] at H; exact H
                  clear H
                  have H := H1
                  clear H1
                  have H' := Aside0.mk H
                  clear H
                  go_wp2
                  repeat (go_quiet (fail); try go_wp2)
                  go_loopg [9] kj19 (fun kq v9 w' => ∃ (x9_3 : Int), v9 = .int .i64 x9_3 ∧ Aside0 (stepladderlaw21_VelvetCut.l0 kq a1 t359 t366 x9_3 = some r) ∧ Aside0 (kq ≤ kj19) ∧ Aside0 (Kd.R Kd.bool 4 w' w.heap.size (fun k_ => some k_ ≠ (v367 : Value).ownBlock) v360 t359) ∧ Aside0 (Kd.R Kd.bool 4 w' w.heap.size (fun k_ => some k_ ≠ (v360 : Value).ownBlock) v367 t366) ∧ Aside0 (Below w.heap.size w w'))
                  case atStart => exact ⟨(0), (by first | rfl | (simp; done) | (simp [*]; done)), H', ⟨Nat.le_refl _⟩, ⟨by (with_reducible repeat (first | apply Kd.R_alloc | apply Kd.R_drewN | apply Kd.R_drew)); exact HO_7.out⟩, ⟨by (with_reducible repeat (first | apply Kd.R_alloc | apply Kd.R_drewN | apply Kd.R_drew)); exact HO_8.out⟩, ⟨by repeat (first | (with_reducible first | exact HB.out | apply below_alloc | apply pw_below_drewN | apply below_drew1) | exact HB.out)⟩⟩
                  case round =>
                    clear H'
                    try clear c1
                    try clear c2
                    try clear p2
                    try clear q2
                    try clear c7
                    try clear c8
                    try clear c9
                    try clear c10
                    try clear c11
                    try clear c11b0
                    try clear c15
                    try clear c17
                    try clear c17b0
                    try clear c17b1
                    try clear c18
                    try clear c18b0
                    try clear c18b1
                    try clear q22
                    try clear c24
                    try clear c24b0
                    try clear c24b1
                    try clear c24b2
                    try clear c28
                    try clear p2
                    try clear q2
                    try clear q22
                    obtain ⟨x9_3, rfl, HA, HK3, HO_7, HO_8, HB⟩ := hrel
                    cases gk with
                    | zero => exact absurd HA.out (by simp [stepladderlaw21_VelvetCut.l0])
                    | succ k3 =>
                      have H := HA.out
                      clear HA
                      simp only [stepladderlaw21_VelvetCut.l0] at H
                      by_cases c29 : x9_3 < a1
                      · rw [if_pos c29] at H
                        have c29b0 : decide (x9_3 < a1) = true := decide_eq_true c29
                        clear c29
                        by_cases c30 : 0 ≤ x9_3
                        · rw [if_pos c30] at H
                          have c30b0 : decide (0 ≤ x9_3) = true := decide_eq_true c30
                          clear c30
                          by_cases c31 : x9_3 < (t359.length : Int)
                          · rw [if_pos c31] at H
                            have c31b0 : decide (x9_3 < (t359.length : Int)) = true := decide_eq_true c31
                            clear c31
                            by_cases c32 : x9_3 < (t366.length : Int)
                            · rw [if_pos c32] at H
                              have c32b0 : decide (x9_3 < (t366.length : Int)) = true := decide_eq_true c32
                              clear c32
                              by_cases c33 : ((rdOf false t359 x9_3) != (rdOf false t366 x9_3)) = true
                              · rw [if_pos c33] at H
                                have c33b0 : ((rdOf false t359 x9_3) != (rdOf false t366 x9_3)) = true := c33
                                (try (have c33b1 : decide ((rdOf false t359 x9_3) = (rdOf false t366 x9_3)) = false := by simpa using c33))
                                (try (have c33b2 : ((rdOf false t359 x9_3) == (rdOf false t366 x9_3)) = false := by simpa using c33))
                                (try (have c33b3 : ¬ ((rdOf false t359 x9_3) = (rdOf false t366 x9_3)) := by simpa using c33))
                                clear c33
                                obtain rfl := Option.some.inj H
                                obtain ⟨Ao34, co34, eo34⟩ := Kd.R_slice HO_7.out
                                subst eo34
                                have p369 : 0 ≤ (x9_3 : Int) := of_decide_eq_true (by first | (with_reducible assumption) | assumption)
                                have q369 : x9_3 < (t359.length : Int) := of_decide_eq_true (by first | (with_reducible assumption) | assumption)
                                obtain ⟨ad369, e369, hx369_0⟩ := Kd.at_bool (Kd.R_reads' HO_7.out).2.2 x9_3 p369 q369
                                cases e369
                                replace p369 := eq_true p369
                                replace q369 := eq_true q369
                                obtain ⟨Ao35, co35, eo35⟩ := Kd.R_slice HO_8.out
                                subst eo35
                                have p370 : 0 ≤ (x9_3 : Int) := of_decide_eq_true (by first | (with_reducible assumption) | assumption)
                                have q370 : x9_3 < (t366.length : Int) := of_decide_eq_true (by first | (with_reducible assumption) | assumption)
                                obtain ⟨ad370, e370, hx370_0⟩ := Kd.at_bool (Kd.R_reads' HO_8.out).2.2 x9_3 p370 q370
                                cases e370
                                replace p370 := eq_true p370
                                replace q370 := eq_true q370
                                go_wp2
                                repeat (go_quiet (fail); try go_wp2)
                                go_ret
                                exact ⟨by first | rfl | (simp [errW_none, errW_some] <;> rfl) | (simp [*, errW_none, errW_some] <;> rfl), by repeat (first | (with_reducible first | exact HB.out | apply below_alloc | apply pw_below_drewN | apply below_drew1) | exact HB.out)⟩
                              · rw [if_neg c33] at H
                                have c33b0 : ((rdOf false t359 x9_3) != (rdOf false t366 x9_3)) = false := by simpa using c33
                                (try (have c33b1 : decide ((rdOf false t359 x9_3) = (rdOf false t366 x9_3)) = true := by simpa using c33))
                                (try (have c33b2 : ((rdOf false t359 x9_3) == (rdOf false t366 x9_3)) = true := by simpa using c33))
                                clear c33
                                have H' := Aside0.mk H
                                clear H
                                obtain ⟨Ao36, co36, eo36⟩ := Kd.R_slice HO_7.out
                                subst eo36
                                have p369 : 0 ≤ (x9_3 : Int) := of_decide_eq_true (by first | (with_reducible assumption) | assumption)
                                have q369 : x9_3 < (t359.length : Int) := of_decide_eq_true (by first | (with_reducible assumption) | assumption)
                                obtain ⟨ad369, e369, hx369_0⟩ := Kd.at_bool (Kd.R_reads' HO_7.out).2.2 x9_3 p369 q369
                                cases e369
                                replace p369 := eq_true p369
                                replace q369 := eq_true q369
                                obtain ⟨Ao37, co37, eo37⟩ := Kd.R_slice HO_8.out
                                subst eo37
                                have p370 : 0 ≤ (x9_3 : Int) := of_decide_eq_true (by first | (with_reducible assumption) | assumption)
                                have q370 : x9_3 < (t366.length : Int) := of_decide_eq_true (by first | (with_reducible assumption) | assumption)
                                obtain ⟨ad370, e370, hx370_0⟩ := Kd.at_bool (Kd.R_reads' HO_8.out).2.2 x9_3 p370 q370
                                cases e370
                                replace p370 := eq_true p370
                                replace q370 := eq_true q370
                                go_wp2
                                repeat (go_quiet (fail); try go_wp2)
                                go_roundg k3
                                case measure => have := HJ4.out; have := HJ19.out; have := HK3.out; omega
                                case rel => exact ⟨(wrap64 (x9_3 + 1)), (by first | rfl | (simp; done) | (simp [*]; done)), H', ⟨by have := HJ4.out; have := HJ19.out; have := HK3.out; omega⟩, ⟨by (with_reducible repeat (first | apply Kd.R_alloc | apply Kd.R_drewN | apply Kd.R_drew)); exact HO_7.out⟩, ⟨by (with_reducible repeat (first | apply Kd.R_alloc | apply Kd.R_drewN | apply Kd.R_drew)); exact HO_8.out⟩, ⟨by repeat (first | (with_reducible first | exact HB.out | apply below_alloc | apply pw_below_drewN | apply below_drew1) | exact HB.out)⟩⟩
                            · rw [if_neg c32] at H
                              exact absurd H (by simp)
                          · rw [if_neg c31] at H
                            exact absurd H (by simp)
                        · rw [if_neg c30] at H
                          exact absurd H (by simp)
                      · rw [if_neg c29] at H
                        have c29b0 : decide (x9_3 < a1) = false := decide_eq_false c29
                        clear c29
                        obtain rfl := Option.some.inj H
                        go_wp2
                        repeat (go_quiet (fail); try go_wp2)
                        go_ret
                        exact ⟨by first | rfl | (simp [errW_none, errW_some] <;> rfl) | (simp [*, errW_none, errW_some] <;> rfl), by repeat (first | (with_reducible first | exact HB.out | apply below_alloc | apply pw_below_drewN | apply below_drew1) | exact HB.out)⟩
          · rw [if_neg c18] at H
            exact absurd H (by simp)
        · rw [if_neg c17] at H
          exact absurd H (by simp)

end Go.Proofs.Yteekdggainficaa.X
