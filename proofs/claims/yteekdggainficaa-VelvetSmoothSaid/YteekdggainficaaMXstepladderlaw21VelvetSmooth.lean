import Derived.Test.YteekdggainficaaMB1
import Derived.Test.YteekdggainficaaMB4
import Derived.Test.YteekdggainficaaMB3
import Derived.Test.YteekdggainficaaMB5
-- By this session's own program (wip/tools/xprint.py), over the kit's print. Not trusted: Lean checks it.
namespace Go.Proofs.Yteekdggainficaa.X
open Go.RowKit Go.Proofs.YteekdggainficaaW.PrintWords Go.Proofs.YteekdggainficaaW.PrintLast Go.Proofs.YteekdggainficaaW.PrintMore
attribute [local go_sem] max2_int min2_int max_two min_two max_three min_three max_four min_four   -- for this text's walks alone
set_option linter.unusedVariables false
set_option linter.unusedSimpArgs false

/-! ### stepladderlaw21_VelvetSmooth: function 4 -/
mutual
def stepladderlaw21_VelvetSmooth.j0 : Nat → List (S36) → Int → Int → Int → Bool → Bool → Option (Bool)
  | 0, _, _, _, _, _, _ => none
  | k + 1, x0, x1, x2, x3, x9, x31 => if x31 = true then (some x9) else ((velvet_Prefix.f x0 x1 x2).bind fun bt276 => ((velvet_Smooth.f x0).bind fun t280 => ((velvet_May.f k x0).bind fun t283 => (if t283 = true then (if x1 ≥ 1 then (if x2 ≥ 1 then (stepladderlaw21_VelvetSmooth.j1 k x0 x1 x2 x3 bt276.1 bt276.2 t280 (bt276.2 != (decide ((x0.length : Int) > x2)))) else (stepladderlaw21_VelvetSmooth.j1 k x0 x1 x2 x3 bt276.1 bt276.2 t280 (bt276.2 != false))) else (stepladderlaw21_VelvetSmooth.j1 k x0 x1 x2 x3 bt276.1 bt276.2 t280 (bt276.2 != false))) else (stepladderlaw21_VelvetSmooth.j1 k x0 x1 x2 x3 bt276.1 bt276.2 t280 (bt276.2 != false))))))
def stepladderlaw21_VelvetSmooth.j1 : Nat → List (S36) → Int → Int → Int → List Int → Bool → List Bool → Bool → Option (Bool)
  | 0, _, _, _, _, _, _, _, _ => none
  | k + 1, x0, x1, x2, x3, x11, x12, x13, x59 => if x59 = true then (some false) else (if x12 = true then (if (x11.length : Int) = 0 then (stepladderlaw21_VelvetSmooth.j2 k x0 x1 x2 x3 x11 x13 true) else (if 0 < (x11.length : Int) then (if (rd x11 0) = 0 then (if (x13.length : Int) = (x0.length : Int) then (if x2 < 1 then (stepladderlaw21_VelvetSmooth.j2 k x0 x1 x2 x3 x11 x13 true) else (stepladderlaw21_VelvetSmooth.j2 k x0 x1 x2 x3 x11 x13 (decide (x2 ≥ (x0.length : Int))))) else (stepladderlaw21_VelvetSmooth.j2 k x0 x1 x2 x3 x11 x13 true)) else (stepladderlaw21_VelvetSmooth.j2 k x0 x1 x2 x3 x11 x13 true)) else (none))) else (some ((x11.length : Int) == 0)))
def stepladderlaw21_VelvetSmooth.j2 : Nat → List (S36) → Int → Int → Int → List Int → List Bool → Bool → Option (Bool)
  | 0, _, _, _, _, _, _, _ => none
  | k + 1, x0, x1, x2, x3, x11, x13, x90 => if x90 = true then (some false) else (stepladderlaw21_VelvetSmooth.l0 k x0 x1 x2 x3 x11 x13 0)
def stepladderlaw21_VelvetSmooth.l0 : Nat → List (S36) → Int → Int → Int → List Int → List Bool → Int → Option (Bool)
  | 0, _, _, _, _, _, _, _ => none
  | k + 1, x0, x1, x2, x3, x11, x13, x14 => if x14 < (x11.length : Int) then (if 0 ≤ x14 then (if (rd x11 x14) < 0 then (some false) else (if (rd x11 x14) ≥ (wrap64 ((x0.length : Int) - x2)) then (some false) else (if 0 ≤ (rd x11 x14) then (if (rd x11 x14) < (x13.length : Int) then (if (rdOf false x13 (rd x11 x14) = true) then (if x14 > 0 then (if 0 ≤ (wrap64 (x14 - 1)) then (if (wrap64 (x14 - 1)) < (x11.length : Int) then (if (rd x11 x14) ≤ (rd x11 (wrap64 (x14 - 1))) then (some false) else (stepladderlaw21_VelvetSmooth.l0 k x0 x1 x2 x3 x11 x13 (wrap64 (x14 + 1)))) else (none)) else (none)) else (stepladderlaw21_VelvetSmooth.l0 k x0 x1 x2 x3 x11 x13 (wrap64 (x14 + 1)))) else (some false)) else (none)) else (none)))) else (none)) else (stepladderlaw21_VelvetSmooth.l1 k x0 x1 x3 x11 x13 0 (wrap64 ((wrap64 ((x0.length : Int) - x2)) - 1)))
def stepladderlaw21_VelvetSmooth.l1 : Nat → List (S36) → Int → Int → List Int → List Bool → Int → Int → Option (Bool)
  | 0, _, _, _, _, _, _, _ => none
  | k + 1, x0, x1, x3, x11, x13, x15, x16 => if x16 ≥ 0 then (stepladderlaw21_VelvetSmooth.j5 k x0 x1 x3 x11 x13 x15 x16 (decide (x15 < x1))) else (stepladderlaw21_VelvetSmooth.j5 k x0 x1 x3 x11 x13 x15 x16 false)
def stepladderlaw21_VelvetSmooth.j5 : Nat → List (S36) → Int → Int → List Int → List Bool → Int → Int → Bool → Option (Bool)
  | 0, _, _, _, _, _, _, _, _ => none
  | k + 1, x0, x1, x3, x11, x13, x15, x16, x150 => if x150 = true then (if 0 ≤ x16 then (if x16 < (x13.length : Int) then (if rdOf false x13 x16 = true then (if x16 < (x0.length : Int) then (stepladderlaw21_VelvetSmooth.j6 k x0 x1 x3 x11 x13 x15 x16 (decide (((rd_T36 x0 x16).f1) < x3))) else (none)) else (stepladderlaw21_VelvetSmooth.j6 k x0 x1 x3 x11 x13 x15 x16 true)) else (none)) else (none)) else (some true)
def stepladderlaw21_VelvetSmooth.j6 : Nat → List (S36) → Int → Int → List Int → List Bool → Int → Int → Bool → Option (Bool)
  | 0, _, _, _, _, _, _, _, _ => none
  | k + 1, x0, x1, x3, x11, x13, x15, x16, x166 => if x166 = true then (stepladderlaw21_VelvetSmooth.l1 k x0 x1 x3 x11 x13 x15 (wrap64 (x16 - 1))) else (stepladderlaw21_VelvetSmooth.l2 k x0 x1 x3 x11 x13 (wrap64 (x15 + 1)) x16 false 0)
def stepladderlaw21_VelvetSmooth.l2 : Nat → List (S36) → Int → Int → List Int → List Bool → Int → Int → Bool → Int → Option (Bool)
  | 0, _, _, _, _, _, _, _, _, _ => none
  | k + 1, x0, x1, x3, x11, x13, x15, x16, x17, x18 => if x18 < (x11.length : Int) then (if x17 = true then (stepladderlaw21_VelvetSmooth.l2 k x0 x1 x3 x11 x13 x15 x16 true (wrap64 (x18 + 1))) else (if 0 ≤ x18 then (stepladderlaw21_VelvetSmooth.l2 k x0 x1 x3 x11 x13 x15 x16 ((rd x11 x18) == x16) (wrap64 (x18 + 1))) else (none))) else (if x17 = true then (stepladderlaw21_VelvetSmooth.l1 k x0 x1 x3 x11 x13 x15 (wrap64 (x16 - 1))) else (some false))
end
def stepladderlaw21_VelvetSmooth.f (k : Nat) (l0 : List (S36)) (a1 : Int) (a2 : Int) (a3 : Int) : Option (Bool) := (stepladderlaw21_awake.f k).bind fun t274 => ((stepladderlaw21_few.f k l0).bind fun t275 => (if t274 = true then (if t275 = true then (stepladderlaw21_VelvetSmooth.j0 k l0 a1 a2 a3 t274 (decide (a1 > 1000))) else (stepladderlaw21_VelvetSmooth.j0 k l0 a1 a2 a3 t274 true)) else (stepladderlaw21_VelvetSmooth.j0 k l0 a1 a2 a3 t274 true)))
theorem stepladderlaw21_VelvetSmooth.mono_l : ∀ k, (∀ y0 y1 y2 y3 y4 y5, LeO (stepladderlaw21_VelvetSmooth.j0 k y0 y1 y2 y3 y4 y5) (stepladderlaw21_VelvetSmooth.j0 (k + 1) y0 y1 y2 y3 y4 y5)) ∧ (∀ y0 y1 y2 y3 y4 y5 y6 y7, LeO (stepladderlaw21_VelvetSmooth.j1 k y0 y1 y2 y3 y4 y5 y6 y7) (stepladderlaw21_VelvetSmooth.j1 (k + 1) y0 y1 y2 y3 y4 y5 y6 y7)) ∧ (∀ y0 y1 y2 y3 y4 y5 y6, LeO (stepladderlaw21_VelvetSmooth.j2 k y0 y1 y2 y3 y4 y5 y6) (stepladderlaw21_VelvetSmooth.j2 (k + 1) y0 y1 y2 y3 y4 y5 y6)) ∧ (∀ y0 y1 y2 y3 y4 y5 y6, LeO (stepladderlaw21_VelvetSmooth.l0 k y0 y1 y2 y3 y4 y5 y6) (stepladderlaw21_VelvetSmooth.l0 (k + 1) y0 y1 y2 y3 y4 y5 y6)) ∧ (∀ y0 y1 y2 y3 y4 y5 y6, LeO (stepladderlaw21_VelvetSmooth.l1 k y0 y1 y2 y3 y4 y5 y6) (stepladderlaw21_VelvetSmooth.l1 (k + 1) y0 y1 y2 y3 y4 y5 y6)) ∧ (∀ y0 y1 y2 y3 y4 y5 y6 y7, LeO (stepladderlaw21_VelvetSmooth.j5 k y0 y1 y2 y3 y4 y5 y6 y7) (stepladderlaw21_VelvetSmooth.j5 (k + 1) y0 y1 y2 y3 y4 y5 y6 y7)) ∧ (∀ y0 y1 y2 y3 y4 y5 y6 y7, LeO (stepladderlaw21_VelvetSmooth.j6 k y0 y1 y2 y3 y4 y5 y6 y7) (stepladderlaw21_VelvetSmooth.j6 (k + 1) y0 y1 y2 y3 y4 y5 y6 y7)) ∧ (∀ y0 y1 y2 y3 y4 y5 y6 y7 y8, LeO (stepladderlaw21_VelvetSmooth.l2 k y0 y1 y2 y3 y4 y5 y6 y7 y8) (stepladderlaw21_VelvetSmooth.l2 (k + 1) y0 y1 y2 y3 y4 y5 y6 y7 y8))
  | 0 => ⟨fun _ _ _ _ _ _ r h => by simp [stepladderlaw21_VelvetSmooth.j0] at h, fun _ _ _ _ _ _ _ _ r h => by simp [stepladderlaw21_VelvetSmooth.j1] at h, fun _ _ _ _ _ _ _ r h => by simp [stepladderlaw21_VelvetSmooth.j2] at h, fun _ _ _ _ _ _ _ r h => by simp [stepladderlaw21_VelvetSmooth.l0] at h, fun _ _ _ _ _ _ _ r h => by simp [stepladderlaw21_VelvetSmooth.l1] at h, fun _ _ _ _ _ _ _ _ r h => by simp [stepladderlaw21_VelvetSmooth.j5] at h, fun _ _ _ _ _ _ _ _ r h => by simp [stepladderlaw21_VelvetSmooth.j6] at h, fun _ _ _ _ _ _ _ _ _ r h => by simp [stepladderlaw21_VelvetSmooth.l2] at h⟩
  | k + 1 => by
    obtain ⟨ih0, ih1, ih2, ih3, ih4, ih5, ih6, ih7⟩ := stepladderlaw21_VelvetSmooth.mono_l k
    refine ⟨?_, ?_, ?_, ?_, ?_, ?_, ?_, ?_⟩
    · intro y0 y1 y2 y3 y4 y5
      unfold stepladderlaw21_VelvetSmooth.j0
      repeat' first
      | (with_reducible exact ih0 _ _ _ _ _ _)
      | (with_reducible exact ih1 _ _ _ _ _ _ _ _)
      | (with_reducible exact ih2 _ _ _ _ _ _ _)
      | (with_reducible exact ih3 _ _ _ _ _ _ _)
      | (with_reducible exact ih4 _ _ _ _ _ _ _)
      | (with_reducible exact ih5 _ _ _ _ _ _ _ _)
      | (with_reducible exact ih6 _ _ _ _ _ _ _ _)
      | (with_reducible exact ih7 _ _ _ _ _ _ _ _ _)
      | (with_reducible exact stepladderlaw21_awake.mono _)
      | (with_reducible exact stepladderlaw21_few.mono _ _)
      | (with_reducible exact velvet_May.mono _ _)
      | (with_reducible exact LeO.refl _)
      | (with_reducible exact LeO.none _)
      | (with_reducible refine LeO.ite ?_ ?_)
      | (with_reducible refine LeO.bind ?_ (fun _ => ?_))
      | exact ih0 _ _ _ _ _ _
      | exact ih1 _ _ _ _ _ _ _ _
      | exact ih2 _ _ _ _ _ _ _
      | exact ih3 _ _ _ _ _ _ _
      | exact ih4 _ _ _ _ _ _ _
      | exact ih5 _ _ _ _ _ _ _ _
      | exact ih6 _ _ _ _ _ _ _ _
      | exact ih7 _ _ _ _ _ _ _ _ _
      | exact stepladderlaw21_awake.mono _
      | exact stepladderlaw21_few.mono _ _
      | exact velvet_May.mono _ _
      | exact LeO.none _
      | refine LeO.ite ?_ ?_
      | refine LeO.bind ?_ (fun _ => ?_)
    · intro y0 y1 y2 y3 y4 y5 y6 y7
      unfold stepladderlaw21_VelvetSmooth.j1
      repeat' first
      | (with_reducible exact ih0 _ _ _ _ _ _)
      | (with_reducible exact ih1 _ _ _ _ _ _ _ _)
      | (with_reducible exact ih2 _ _ _ _ _ _ _)
      | (with_reducible exact ih3 _ _ _ _ _ _ _)
      | (with_reducible exact ih4 _ _ _ _ _ _ _)
      | (with_reducible exact ih5 _ _ _ _ _ _ _ _)
      | (with_reducible exact ih6 _ _ _ _ _ _ _ _)
      | (with_reducible exact ih7 _ _ _ _ _ _ _ _ _)
      | (with_reducible exact stepladderlaw21_awake.mono _)
      | (with_reducible exact stepladderlaw21_few.mono _ _)
      | (with_reducible exact velvet_May.mono _ _)
      | (with_reducible exact LeO.refl _)
      | (with_reducible exact LeO.none _)
      | (with_reducible refine LeO.ite ?_ ?_)
      | (with_reducible refine LeO.bind ?_ (fun _ => ?_))
      | exact ih0 _ _ _ _ _ _
      | exact ih1 _ _ _ _ _ _ _ _
      | exact ih2 _ _ _ _ _ _ _
      | exact ih3 _ _ _ _ _ _ _
      | exact ih4 _ _ _ _ _ _ _
      | exact ih5 _ _ _ _ _ _ _ _
      | exact ih6 _ _ _ _ _ _ _ _
      | exact ih7 _ _ _ _ _ _ _ _ _
      | exact stepladderlaw21_awake.mono _
      | exact stepladderlaw21_few.mono _ _
      | exact velvet_May.mono _ _
      | exact LeO.none _
      | refine LeO.ite ?_ ?_
      | refine LeO.bind ?_ (fun _ => ?_)
    · intro y0 y1 y2 y3 y4 y5 y6
      unfold stepladderlaw21_VelvetSmooth.j2
      repeat' first
      | (with_reducible exact ih0 _ _ _ _ _ _)
      | (with_reducible exact ih1 _ _ _ _ _ _ _ _)
      | (with_reducible exact ih2 _ _ _ _ _ _ _)
      | (with_reducible exact ih3 _ _ _ _ _ _ _)
      | (with_reducible exact ih4 _ _ _ _ _ _ _)
      | (with_reducible exact ih5 _ _ _ _ _ _ _ _)
      | (with_reducible exact ih6 _ _ _ _ _ _ _ _)
      | (with_reducible exact ih7 _ _ _ _ _ _ _ _ _)
      | (with_reducible exact stepladderlaw21_awake.mono _)
      | (with_reducible exact stepladderlaw21_few.mono _ _)
      | (with_reducible exact velvet_May.mono _ _)
      | (with_reducible exact LeO.refl _)
      | (with_reducible exact LeO.none _)
      | (with_reducible refine LeO.ite ?_ ?_)
      | (with_reducible refine LeO.bind ?_ (fun _ => ?_))
      | exact ih0 _ _ _ _ _ _
      | exact ih1 _ _ _ _ _ _ _ _
      | exact ih2 _ _ _ _ _ _ _
      | exact ih3 _ _ _ _ _ _ _
      | exact ih4 _ _ _ _ _ _ _
      | exact ih5 _ _ _ _ _ _ _ _
      | exact ih6 _ _ _ _ _ _ _ _
      | exact ih7 _ _ _ _ _ _ _ _ _
      | exact stepladderlaw21_awake.mono _
      | exact stepladderlaw21_few.mono _ _
      | exact velvet_May.mono _ _
      | exact LeO.none _
      | refine LeO.ite ?_ ?_
      | refine LeO.bind ?_ (fun _ => ?_)
    · intro y0 y1 y2 y3 y4 y5 y6
      unfold stepladderlaw21_VelvetSmooth.l0
      repeat' first
      | (with_reducible exact ih0 _ _ _ _ _ _)
      | (with_reducible exact ih1 _ _ _ _ _ _ _ _)
      | (with_reducible exact ih2 _ _ _ _ _ _ _)
      | (with_reducible exact ih3 _ _ _ _ _ _ _)
      | (with_reducible exact ih4 _ _ _ _ _ _ _)
      | (with_reducible exact ih5 _ _ _ _ _ _ _ _)
      | (with_reducible exact ih6 _ _ _ _ _ _ _ _)
      | (with_reducible exact ih7 _ _ _ _ _ _ _ _ _)
      | (with_reducible exact stepladderlaw21_awake.mono _)
      | (with_reducible exact stepladderlaw21_few.mono _ _)
      | (with_reducible exact velvet_May.mono _ _)
      | (with_reducible exact LeO.refl _)
      | (with_reducible exact LeO.none _)
      | (with_reducible refine LeO.ite ?_ ?_)
      | (with_reducible refine LeO.bind ?_ (fun _ => ?_))
      | exact ih0 _ _ _ _ _ _
      | exact ih1 _ _ _ _ _ _ _ _
      | exact ih2 _ _ _ _ _ _ _
      | exact ih3 _ _ _ _ _ _ _
      | exact ih4 _ _ _ _ _ _ _
      | exact ih5 _ _ _ _ _ _ _ _
      | exact ih6 _ _ _ _ _ _ _ _
      | exact ih7 _ _ _ _ _ _ _ _ _
      | exact stepladderlaw21_awake.mono _
      | exact stepladderlaw21_few.mono _ _
      | exact velvet_May.mono _ _
      | exact LeO.none _
      | refine LeO.ite ?_ ?_
      | refine LeO.bind ?_ (fun _ => ?_)
    · intro y0 y1 y2 y3 y4 y5 y6
      unfold stepladderlaw21_VelvetSmooth.l1
      repeat' first
      | (with_reducible exact ih0 _ _ _ _ _ _)
      | (with_reducible exact ih1 _ _ _ _ _ _ _ _)
      | (with_reducible exact ih2 _ _ _ _ _ _ _)
      | (with_reducible exact ih3 _ _ _ _ _ _ _)
      | (with_reducible exact ih4 _ _ _ _ _ _ _)
      | (with_reducible exact ih5 _ _ _ _ _ _ _ _)
      | (with_reducible exact ih6 _ _ _ _ _ _ _ _)
      | (with_reducible exact ih7 _ _ _ _ _ _ _ _ _)
      | (with_reducible exact stepladderlaw21_awake.mono _)
      | (with_reducible exact stepladderlaw21_few.mono _ _)
      | (with_reducible exact velvet_May.mono _ _)
      | (with_reducible exact LeO.refl _)
      | (with_reducible exact LeO.none _)
      | (with_reducible refine LeO.ite ?_ ?_)
      | (with_reducible refine LeO.bind ?_ (fun _ => ?_))
      | exact ih0 _ _ _ _ _ _
      | exact ih1 _ _ _ _ _ _ _ _
      | exact ih2 _ _ _ _ _ _ _
      | exact ih3 _ _ _ _ _ _ _
      | exact ih4 _ _ _ _ _ _ _
      | exact ih5 _ _ _ _ _ _ _ _
      | exact ih6 _ _ _ _ _ _ _ _
      | exact ih7 _ _ _ _ _ _ _ _ _
      | exact stepladderlaw21_awake.mono _
      | exact stepladderlaw21_few.mono _ _
      | exact velvet_May.mono _ _
      | exact LeO.none _
      | refine LeO.ite ?_ ?_
      | refine LeO.bind ?_ (fun _ => ?_)
    · intro y0 y1 y2 y3 y4 y5 y6 y7
      unfold stepladderlaw21_VelvetSmooth.j5
      repeat' first
      | (with_reducible exact ih0 _ _ _ _ _ _)
      | (with_reducible exact ih1 _ _ _ _ _ _ _ _)
      | (with_reducible exact ih2 _ _ _ _ _ _ _)
      | (with_reducible exact ih3 _ _ _ _ _ _ _)
      | (with_reducible exact ih4 _ _ _ _ _ _ _)
      | (with_reducible exact ih5 _ _ _ _ _ _ _ _)
      | (with_reducible exact ih6 _ _ _ _ _ _ _ _)
      | (with_reducible exact ih7 _ _ _ _ _ _ _ _ _)
      | (with_reducible exact stepladderlaw21_awake.mono _)
      | (with_reducible exact stepladderlaw21_few.mono _ _)
      | (with_reducible exact velvet_May.mono _ _)
      | (with_reducible exact LeO.refl _)
      | (with_reducible exact LeO.none _)
      | (with_reducible refine LeO.ite ?_ ?_)
      | (with_reducible refine LeO.bind ?_ (fun _ => ?_))
      | exact ih0 _ _ _ _ _ _
      | exact ih1 _ _ _ _ _ _ _ _
      | exact ih2 _ _ _ _ _ _ _
      | exact ih3 _ _ _ _ _ _ _
      | exact ih4 _ _ _ _ _ _ _
      | exact ih5 _ _ _ _ _ _ _ _
      | exact ih6 _ _ _ _ _ _ _ _
      | exact ih7 _ _ _ _ _ _ _ _ _
      | exact stepladderlaw21_awake.mono _
      | exact stepladderlaw21_few.mono _ _
      | exact velvet_May.mono _ _
      | exact LeO.none _
      | refine LeO.ite ?_ ?_
      | refine LeO.bind ?_ (fun _ => ?_)
    · intro y0 y1 y2 y3 y4 y5 y6 y7
      unfold stepladderlaw21_VelvetSmooth.j6
      repeat' first
      | (with_reducible exact ih0 _ _ _ _ _ _)
      | (with_reducible exact ih1 _ _ _ _ _ _ _ _)
      | (with_reducible exact ih2 _ _ _ _ _ _ _)
      | (with_reducible exact ih3 _ _ _ _ _ _ _)
      | (with_reducible exact ih4 _ _ _ _ _ _ _)
      | (with_reducible exact ih5 _ _ _ _ _ _ _ _)
      | (with_reducible exact ih6 _ _ _ _ _ _ _ _)
      | (with_reducible exact ih7 _ _ _ _ _ _ _ _ _)
      | (with_reducible exact stepladderlaw21_awake.mono _)
      | (with_reducible exact stepladderlaw21_few.mono _ _)
      | (with_reducible exact velvet_May.mono _ _)
      | (with_reducible exact LeO.refl _)
      | (with_reducible exact LeO.none _)
      | (with_reducible refine LeO.ite ?_ ?_)
      | (with_reducible refine LeO.bind ?_ (fun _ => ?_))
      | exact ih0 _ _ _ _ _ _
      | exact ih1 _ _ _ _ _ _ _ _
      | exact ih2 _ _ _ _ _ _ _
      | exact ih3 _ _ _ _ _ _ _
      | exact ih4 _ _ _ _ _ _ _
      | exact ih5 _ _ _ _ _ _ _ _
      | exact ih6 _ _ _ _ _ _ _ _
      | exact ih7 _ _ _ _ _ _ _ _ _
      | exact stepladderlaw21_awake.mono _
      | exact stepladderlaw21_few.mono _ _
      | exact velvet_May.mono _ _
      | exact LeO.none _
      | refine LeO.ite ?_ ?_
      | refine LeO.bind ?_ (fun _ => ?_)
    · intro y0 y1 y2 y3 y4 y5 y6 y7 y8
      unfold stepladderlaw21_VelvetSmooth.l2
      repeat' first
      | (with_reducible exact ih0 _ _ _ _ _ _)
      | (with_reducible exact ih1 _ _ _ _ _ _ _ _)
      | (with_reducible exact ih2 _ _ _ _ _ _ _)
      | (with_reducible exact ih3 _ _ _ _ _ _ _)
      | (with_reducible exact ih4 _ _ _ _ _ _ _)
      | (with_reducible exact ih5 _ _ _ _ _ _ _ _)
      | (with_reducible exact ih6 _ _ _ _ _ _ _ _)
      | (with_reducible exact ih7 _ _ _ _ _ _ _ _ _)
      | (with_reducible exact stepladderlaw21_awake.mono _)
      | (with_reducible exact stepladderlaw21_few.mono _ _)
      | (with_reducible exact velvet_May.mono _ _)
      | (with_reducible exact LeO.refl _)
      | (with_reducible exact LeO.none _)
      | (with_reducible refine LeO.ite ?_ ?_)
      | (with_reducible refine LeO.bind ?_ (fun _ => ?_))
      | exact ih0 _ _ _ _ _ _
      | exact ih1 _ _ _ _ _ _ _ _
      | exact ih2 _ _ _ _ _ _ _
      | exact ih3 _ _ _ _ _ _ _
      | exact ih4 _ _ _ _ _ _ _
      | exact ih5 _ _ _ _ _ _ _ _
      | exact ih6 _ _ _ _ _ _ _ _
      | exact ih7 _ _ _ _ _ _ _ _ _
      | exact stepladderlaw21_awake.mono _
      | exact stepladderlaw21_few.mono _ _
      | exact velvet_May.mono _ _
      | exact LeO.none _
      | refine LeO.ite ?_ ?_
      | refine LeO.bind ?_ (fun _ => ?_)
theorem stepladderlaw21_VelvetSmooth.mono : ∀ a0 a1 a2 a3 k, LeO (stepladderlaw21_VelvetSmooth.f k a0 a1 a2 a3) (stepladderlaw21_VelvetSmooth.f (k + 1) a0 a1 a2 a3) := by
  intro a0 a1 a2 a3 k
  obtain ⟨ih0, ih1, ih2, ih3, ih4, ih5, ih6, ih7⟩ := stepladderlaw21_VelvetSmooth.mono_l k
  unfold stepladderlaw21_VelvetSmooth.f
  repeat' first
      | (with_reducible exact ih0 _ _ _ _ _ _)
      | (with_reducible exact ih1 _ _ _ _ _ _ _ _)
      | (with_reducible exact ih2 _ _ _ _ _ _ _)
      | (with_reducible exact ih3 _ _ _ _ _ _ _)
      | (with_reducible exact ih4 _ _ _ _ _ _ _)
      | (with_reducible exact ih5 _ _ _ _ _ _ _ _)
      | (with_reducible exact ih6 _ _ _ _ _ _ _ _)
      | (with_reducible exact ih7 _ _ _ _ _ _ _ _ _)
      | (with_reducible exact stepladderlaw21_awake.mono _)
      | (with_reducible exact stepladderlaw21_few.mono _ _)
      | (with_reducible exact velvet_May.mono _ _)
      | (with_reducible exact LeO.refl _)
      | (with_reducible exact LeO.none _)
      | (with_reducible refine LeO.ite ?_ ?_)
      | (with_reducible refine LeO.bind ?_ (fun _ => ?_))
      | exact ih0 _ _ _ _ _ _
      | exact ih1 _ _ _ _ _ _ _ _
      | exact ih2 _ _ _ _ _ _ _
      | exact ih3 _ _ _ _ _ _ _
      | exact ih4 _ _ _ _ _ _ _
      | exact ih5 _ _ _ _ _ _ _ _
      | exact ih6 _ _ _ _ _ _ _ _
      | exact ih7 _ _ _ _ _ _ _ _ _
      | exact stepladderlaw21_awake.mono _
      | exact stepladderlaw21_few.mono _ _
      | exact velvet_May.mono _ _
      | exact LeO.none _
      | refine LeO.ite ?_ ?_
      | refine LeO.bind ?_ (fun _ => ?_)
set_option maxHeartbeats 8000000 in
set_option maxRecDepth 100000 in
theorem stepladderlaw21_VelvetSmooth.calls (k : Nat) (A0 : Option Addr) (c0 : Nat) (l0 : List (S36)) (a1 : Int) (a2 : Int) (a3 : Int) (r : Bool) (w : World) (hr0 : Kd.C k36 w A0 l0.length l0) (hc0 : l0.length ≤ c0) (h : stepladderlaw21_VelvetSmooth.f k l0 a1 a2 a3 = some r) :
    Calls Try.prog 4 #[.slice A0 l0.length c0, .int .i64 a1, .int .i64 a2, .int .i64 a3] w fun e w' => e = .returned (.bool r) ∧ Below w.heap.size w w' := by
  have HR0 := Aside0.mk hr0
  have HC0 := Aside0.mk hc0
  clear hr0 hc0
  have HB := Aside0.mk (Below.refl w.heap.size w)
  have H : ((stepladderlaw21_awake.f k).bind fun t274 => ((stepladderlaw21_few.f k l0).bind fun t275 => (if t274 = true then (if t275 = true then (stepladderlaw21_VelvetSmooth.j0 k l0 a1 a2 a3 t274 (decide (a1 > 1000))) else (stepladderlaw21_VelvetSmooth.j0 k l0 a1 a2 a3 t274 true)) else (stepladderlaw21_VelvetSmooth.j0 k l0 a1 a2 a3 t274 true)))) = some r := h
  clear h
  replace H := Option.bind_eq_some_iff.mp H
  obtain ⟨t274, A50, H⟩ := H
  replace H : ((stepladderlaw21_few.f k l0).bind fun t275 => (if t274 = true then (if t275 = true then (stepladderlaw21_VelvetSmooth.j0 k l0 a1 a2 a3 t274 (decide (a1 > 1000))) else (stepladderlaw21_VelvetSmooth.j0 k l0 a1 a2 a3 t274 true)) else (stepladderlaw21_VelvetSmooth.j0 k l0 a1 a2 a3 t274 true))) = some r := H
  have A5 := Aside0.mk A50
  clear A50
  replace H := Option.bind_eq_some_iff.mp H
  obtain ⟨t275, A60, H⟩ := H
  replace H : (if t274 = true then (if t275 = true then (stepladderlaw21_VelvetSmooth.j0 k l0 a1 a2 a3 t274 (decide (a1 > 1000))) else (stepladderlaw21_VelvetSmooth.j0 k l0 a1 a2 a3 t274 true)) else (stepladderlaw21_VelvetSmooth.j0 k l0 a1 a2 a3 t274 true)) = some r := H
  have A6 := Aside0.mk A60
  clear A60
  have HC7 := Aside0.mk H
  clear H
  go_enter Try.func4, Try.ntmps4
  go_upto_region 3 with (first | (go_at_call 10; (with_reducible refine (stepladderlaw21_awake.calls k  t274 _ A5.out).mono ?_); rintro e w8 ⟨rfl, hb⟩; have n0_ := Aside0.mk (below_step (by repeat (first | (with_reducible first | exact HB.out | apply below_alloc | apply pw_below_drewN | apply below_drew1) | exact HB.out)) hb); clear HB; have HB := n0_; clear n0_; (try clear hb); (try clear hb2); (try clear hk); (try clear hi)) | (go_at_call 11; (with_reducible refine (stepladderlaw21_few.calls k _ _ l0 t275 _ ?side1 ?side2 A6.out).mono ?_); (case side1 => repeat (first | exact (Kd.C_below HR0.out HB.out) | (with_reducible refine Kd.C_alloc ?_ _) | (with_reducible refine Kd.C_drewN ?_ _) | (with_reducible refine Kd.C_drew ?_))); (case side2 => exact HC0.out); rintro e w' ⟨rfl, ⟨nd, rfl⟩⟩; (try first | exact ⟨rfl, _, World.drewN_drewN _ _ _⟩ | exact ⟨rfl, _, Eq.trans (World.drewN_drewN _ _ _) (congrArg (World.drewN _) (Nat.add_assoc _ _ _))⟩)))
  repeat (go_quiet (first | (go_at_call 10; (with_reducible refine (stepladderlaw21_awake.calls k  t274 _ A5.out).mono ?_); rintro e w8 ⟨rfl, hb⟩; have n0_ := Aside0.mk (below_step (by repeat (first | (with_reducible first | exact HB.out | apply below_alloc | apply pw_below_drewN | apply below_drew1) | exact HB.out)) hb); clear HB; have HB := n0_; clear n0_; (try clear hb); (try clear hb2); (try clear hk); (try clear hi)) | (go_at_call 11; (with_reducible refine (stepladderlaw21_few.calls k _ _ l0 t275 _ ?side1 ?side2 A6.out).mono ?_); (case side1 => repeat (first | exact (Kd.C_below HR0.out HB.out) | (with_reducible refine Kd.C_alloc ?_ _) | (with_reducible refine Kd.C_drewN ?_ _) | (with_reducible refine Kd.C_drew ?_))); (case side2 => exact HC0.out); rintro e w' ⟨rfl, ⟨nd, rfl⟩⟩; (try first | exact ⟨rfl, _, World.drewN_drewN _ _ _⟩ | exact ⟨rfl, _, Eq.trans (World.drewN_drewN _ _ _) (congrArg (World.drewN _) (Nat.add_assoc _ _ _))⟩))); go_upto_region 3 with (first | (go_at_call 10; (with_reducible refine (stepladderlaw21_awake.calls k  t274 _ A5.out).mono ?_); rintro e w8 ⟨rfl, hb⟩; have n0_ := Aside0.mk (below_step (by repeat (first | (with_reducible first | exact HB.out | apply below_alloc | apply pw_below_drewN | apply below_drew1) | exact HB.out)) hb); clear HB; have HB := n0_; clear n0_; (try clear hb); (try clear hb2); (try clear hk); (try clear hi)) | (go_at_call 11; (with_reducible refine (stepladderlaw21_few.calls k _ _ l0 t275 _ ?side1 ?side2 A6.out).mono ?_); (case side1 => repeat (first | exact (Kd.C_below HR0.out HB.out) | (with_reducible refine Kd.C_alloc ?_ _) | (with_reducible refine Kd.C_drewN ?_ _) | (with_reducible refine Kd.C_drew ?_))); (case side2 => exact HC0.out); rintro e w' ⟨rfl, ⟨nd, rfl⟩⟩; (try first | exact ⟨rfl, _, World.drewN_drewN _ _ _⟩ | exact ⟨rfl, _, Eq.trans (World.drewN_drewN _ _ _) (congrArg (World.drewN _) (Nat.add_assoc _ _ _))⟩))))
  (try simp only [Act.put, List.setIfInBounds_toArray, List.set_cons_zero, List.set_cons_succ])
  go_cut [31] (fun v31 wc => ∃ (kq : Nat) (x31_6 : Bool), v31 = .bool x31_6 ∧ Aside0 (stepladderlaw21_VelvetSmooth.j0 kq l0 a1 a2 a3 t274 x31_6 = some r) ∧ Aside0 (kq ≤ k) ∧ Aside0 (Below w.heap.size w wc))
  case first => as_aux_lemma =>
    have H := HC7.out
    clear HC7
    by_cases c9 : t274 = true
    · subst c9
      have H1 : (if t275 = true then (stepladderlaw21_VelvetSmooth.j0 k l0 a1 a2 a3 true (decide (a1 > 1000))) else (stepladderlaw21_VelvetSmooth.j0 k l0 a1 a2 a3 true true)) = some r := by rw [if_pos rfl] at H; exact H
      clear H
      have H := H1
      clear H1
      by_cases c10 : t275 = true
      · subst c10
        have H1 : (stepladderlaw21_VelvetSmooth.j0 k l0 a1 a2 a3 true (decide (a1 > 1000))) = some r := by rw [if_pos rfl] at H; exact H
        clear H
        have H := H1
        clear H1
        have H' := Aside0.mk H
        clear H
        go_wp2
        repeat (go_quiet (fail); try go_wp2)
        go_meet
        case rel => exact ⟨_, (decide (a1 > 1000)), (by first | rfl | (simp; done) | (simp [*]; done)), H', ⟨by first | omega | exact Nat.le_refl _⟩, ⟨by repeat (first | (with_reducible first | exact HB.out | apply below_alloc | apply pw_below_drewN | apply below_drew1) | exact HB.out)⟩⟩
      · replace c10 := Bool.eq_false_iff.mpr c10
        subst c10
        have H1 : (stepladderlaw21_VelvetSmooth.j0 k l0 a1 a2 a3 true true) = some r := by rw [if_neg (show ¬ (false = true) by decide)] at H; exact H
        clear H
        have H := H1
        clear H1
        have H' := Aside0.mk H
        clear H
        go_wp2
        repeat (go_quiet (fail); try go_wp2)
        go_meet
        case rel => exact ⟨_, (true), (by first | rfl | (simp; done) | (simp [*]; done)), H', ⟨by first | omega | exact Nat.le_refl _⟩, ⟨by repeat (first | (with_reducible first | exact HB.out | apply below_alloc | apply pw_below_drewN | apply below_drew1) | exact HB.out)⟩⟩
    · replace c9 := Bool.eq_false_iff.mpr c9
      subst c9
      have H1 : (stepladderlaw21_VelvetSmooth.j0 k l0 a1 a2 a3 false true) = some r := by rw [if_neg (show ¬ (false = true) by decide)] at H; exact H
      clear H
      have H := H1
      clear H1
      have H' := Aside0.mk H
      clear H
      go_wp2
      repeat (go_quiet (fail); try go_wp2)
      go_meet
      case rel => exact ⟨_, (true), (by first | rfl | (simp; done) | (simp [*]; done)), H', ⟨by first | omega | exact Nat.le_refl _⟩, ⟨by repeat (first | (with_reducible first | exact HB.out | apply below_alloc | apply pw_below_drewN | apply below_drew1) | exact HB.out)⟩⟩
  case rest => as_aux_lemma =>
    clear HC7
    try clear c1
    try clear p2
    try clear c4
    try clear c9
    try clear c10
    obtain ⟨kq, x31_6, rfl, HA, HJ6, HB⟩ := hcut
    cases kq with
    | zero => exact absurd HA.out (by simp [stepladderlaw21_VelvetSmooth.j0])
    | succ kj6 =>
      have H := HA.out
      clear HA
      simp only [stepladderlaw21_VelvetSmooth.j0] at H
      by_cases c11 : x31_6 = true
      · subst c11
        have H1 : (some t274) = some r := by rw [if_pos rfl] at H; exact H
        clear H
        have H := H1
        clear H1
        obtain rfl := Option.some.inj H
        go_wp2
        repeat (go_quiet (fail); try go_wp2)
        go_ret
        exact ⟨by first | rfl | (simp [errW_none, errW_some] <;> rfl) | (simp [*, errW_none, errW_some] <;> rfl), by repeat (first | (with_reducible first | exact HB.out | apply below_alloc | apply pw_below_drewN | apply below_drew1) | exact HB.out)⟩
      · replace c11 := Bool.eq_false_iff.mpr c11
        subst c11
        have H1 : ((velvet_Prefix.f l0 a1 a2).bind fun bt276 => ((velvet_Smooth.f l0).bind fun t280 => ((velvet_May.f kj6 l0).bind fun t283 => (if t283 = true then (if a1 ≥ 1 then (if a2 ≥ 1 then (stepladderlaw21_VelvetSmooth.j1 kj6 l0 a1 a2 a3 bt276.1 bt276.2 t280 (bt276.2 != (decide ((l0.length : Int) > a2)))) else (stepladderlaw21_VelvetSmooth.j1 kj6 l0 a1 a2 a3 bt276.1 bt276.2 t280 (bt276.2 != false))) else (stepladderlaw21_VelvetSmooth.j1 kj6 l0 a1 a2 a3 bt276.1 bt276.2 t280 (bt276.2 != false))) else (stepladderlaw21_VelvetSmooth.j1 kj6 l0 a1 a2 a3 bt276.1 bt276.2 t280 (bt276.2 != false)))))) = some r := by rw [if_neg (show ¬ (false = true) by decide)] at H; exact H
        clear H
        have H := H1
        clear H1
        replace H := Option.bind_eq_some_iff.mp H
        obtain ⟨⟨t276, t277⟩, A120, H⟩ := H
        replace H : ((velvet_Smooth.f l0).bind fun t280 => ((velvet_May.f kj6 l0).bind fun t283 => (if t283 = true then (if a1 ≥ 1 then (if a2 ≥ 1 then (stepladderlaw21_VelvetSmooth.j1 kj6 l0 a1 a2 a3 t276 t277 t280 (t277 != (decide ((l0.length : Int) > a2)))) else (stepladderlaw21_VelvetSmooth.j1 kj6 l0 a1 a2 a3 t276 t277 t280 (t277 != false))) else (stepladderlaw21_VelvetSmooth.j1 kj6 l0 a1 a2 a3 t276 t277 t280 (t277 != false))) else (stepladderlaw21_VelvetSmooth.j1 kj6 l0 a1 a2 a3 t276 t277 t280 (t277 != false))))) = some r := H
        have A12 := Aside0.mk A120
        clear A120
        replace H := Option.bind_eq_some_iff.mp H
        obtain ⟨t280, A130, H⟩ := H
        replace H : ((velvet_May.f kj6 l0).bind fun t283 => (if t283 = true then (if a1 ≥ 1 then (if a2 ≥ 1 then (stepladderlaw21_VelvetSmooth.j1 kj6 l0 a1 a2 a3 t276 t277 t280 (t277 != (decide ((l0.length : Int) > a2)))) else (stepladderlaw21_VelvetSmooth.j1 kj6 l0 a1 a2 a3 t276 t277 t280 (t277 != false))) else (stepladderlaw21_VelvetSmooth.j1 kj6 l0 a1 a2 a3 t276 t277 t280 (t277 != false))) else (stepladderlaw21_VelvetSmooth.j1 kj6 l0 a1 a2 a3 t276 t277 t280 (t277 != false)))) = some r := H
        have A13 := Aside0.mk A130
        clear A130
        have HC14 := Aside0.mk H
        clear H
        go_upto_region 7 with (first | (go_at_call 20; (with_reducible refine (velvet_Prefix.calls _ _ l0 a1 a2 t276 t277 _ ?side1 ?side2 A12.out).mono ?_); (case side1 => repeat (first | exact (Kd.C_below HR0.out HB.out) | (with_reducible refine Kd.C_alloc ?_ _) | (with_reducible refine Kd.C_drewN ?_ _) | (with_reducible refine Kd.C_drew ?_))); (case side2 => exact HC0.out); rintro e w15 ⟨v278, rfl, ho0, hb⟩; have n0_ := Aside0.mk (Kd.R_lower ho0 (below_size (by repeat (first | (with_reducible first | exact HB.out | apply below_alloc | apply pw_below_drewN | apply below_drew1) | exact HB.out)))); have n1_ := Aside0.mk (below_step (by repeat (first | (with_reducible first | exact HB.out | apply below_alloc | apply pw_below_drewN | apply below_drew1) | exact HB.out)) hb); clear HB; have HO279 := n0_; have HB := n1_; clear n0_ n1_; (try clear hb); (try clear hb2); (try clear hk); (try clear hi); (try clear ho0)) | (go_at_call 16; (with_reducible refine (velvet_Smooth.calls _ _ l0 t280 _ ?side1 ?side2 A13.out).mono ?_); (case side1 => repeat (first | exact (Kd.C_below HR0.out HB.out) | (with_reducible refine Kd.C_alloc ?_ _) | (with_reducible refine Kd.C_drewN ?_ _) | (with_reducible refine Kd.C_drew ?_))); (case side2 => exact HC0.out); rintro e w16 ⟨v281, rfl, ho0, hb⟩; have n0_ := Aside0.mk (Kd.R_below (by (with_reducible repeat (first | apply Kd.R_alloc | apply Kd.R_drewN | apply Kd.R_drew)); exact HO279.out) hb); have n1_ := Aside0.mk (Kd.R_lower ho0 (below_size (by repeat (first | (with_reducible first | exact HB.out | apply below_alloc | apply pw_below_drewN | apply below_drew1) | exact HB.out)))); have n2_ := Aside0.mk (below_step (by repeat (first | (with_reducible first | exact HB.out | apply below_alloc | apply pw_below_drewN | apply below_drew1) | exact HB.out)) hb); clear HO279; clear HB; have HO279 := n0_; have HO282 := n1_; have HB := n2_; clear n0_ n1_ n2_; (try clear hb); (try clear hb2); (try clear hk); (try clear hi); (try clear ho0)))
        repeat (go_quiet (first | (go_at_call 20; (with_reducible refine (velvet_Prefix.calls _ _ l0 a1 a2 t276 t277 _ ?side1 ?side2 A12.out).mono ?_); (case side1 => repeat (first | exact (Kd.C_below HR0.out HB.out) | (with_reducible refine Kd.C_alloc ?_ _) | (with_reducible refine Kd.C_drewN ?_ _) | (with_reducible refine Kd.C_drew ?_))); (case side2 => exact HC0.out); rintro e w15 ⟨v278, rfl, ho0, hb⟩; have n0_ := Aside0.mk (Kd.R_lower ho0 (below_size (by repeat (first | (with_reducible first | exact HB.out | apply below_alloc | apply pw_below_drewN | apply below_drew1) | exact HB.out)))); have n1_ := Aside0.mk (below_step (by repeat (first | (with_reducible first | exact HB.out | apply below_alloc | apply pw_below_drewN | apply below_drew1) | exact HB.out)) hb); clear HB; have HO279 := n0_; have HB := n1_; clear n0_ n1_; (try clear hb); (try clear hb2); (try clear hk); (try clear hi); (try clear ho0)) | (go_at_call 16; (with_reducible refine (velvet_Smooth.calls _ _ l0 t280 _ ?side1 ?side2 A13.out).mono ?_); (case side1 => repeat (first | exact (Kd.C_below HR0.out HB.out) | (with_reducible refine Kd.C_alloc ?_ _) | (with_reducible refine Kd.C_drewN ?_ _) | (with_reducible refine Kd.C_drew ?_))); (case side2 => exact HC0.out); rintro e w16 ⟨v281, rfl, ho0, hb⟩; have n0_ := Aside0.mk (Kd.R_below (by (with_reducible repeat (first | apply Kd.R_alloc | apply Kd.R_drewN | apply Kd.R_drew)); exact HO279.out) hb); have n1_ := Aside0.mk (Kd.R_lower ho0 (below_size (by repeat (first | (with_reducible first | exact HB.out | apply below_alloc | apply pw_below_drewN | apply below_drew1) | exact HB.out)))); have n2_ := Aside0.mk (below_step (by repeat (first | (with_reducible first | exact HB.out | apply below_alloc | apply pw_below_drewN | apply below_drew1) | exact HB.out)) hb); clear HO279; clear HB; have HO279 := n0_; have HO282 := n1_; have HB := n2_; clear n0_ n1_ n2_; (try clear hb); (try clear hb2); (try clear hk); (try clear hi); (try clear ho0))); go_upto_region 7 with (first | (go_at_call 20; (with_reducible refine (velvet_Prefix.calls _ _ l0 a1 a2 t276 t277 _ ?side1 ?side2 A12.out).mono ?_); (case side1 => repeat (first | exact (Kd.C_below HR0.out HB.out) | (with_reducible refine Kd.C_alloc ?_ _) | (with_reducible refine Kd.C_drewN ?_ _) | (with_reducible refine Kd.C_drew ?_))); (case side2 => exact HC0.out); rintro e w15 ⟨v278, rfl, ho0, hb⟩; have n0_ := Aside0.mk (Kd.R_lower ho0 (below_size (by repeat (first | (with_reducible first | exact HB.out | apply below_alloc | apply pw_below_drewN | apply below_drew1) | exact HB.out)))); have n1_ := Aside0.mk (below_step (by repeat (first | (with_reducible first | exact HB.out | apply below_alloc | apply pw_below_drewN | apply below_drew1) | exact HB.out)) hb); clear HB; have HO279 := n0_; have HB := n1_; clear n0_ n1_; (try clear hb); (try clear hb2); (try clear hk); (try clear hi); (try clear ho0)) | (go_at_call 16; (with_reducible refine (velvet_Smooth.calls _ _ l0 t280 _ ?side1 ?side2 A13.out).mono ?_); (case side1 => repeat (first | exact (Kd.C_below HR0.out HB.out) | (with_reducible refine Kd.C_alloc ?_ _) | (with_reducible refine Kd.C_drewN ?_ _) | (with_reducible refine Kd.C_drew ?_))); (case side2 => exact HC0.out); rintro e w16 ⟨v281, rfl, ho0, hb⟩; have n0_ := Aside0.mk (Kd.R_below (by (with_reducible repeat (first | apply Kd.R_alloc | apply Kd.R_drewN | apply Kd.R_drew)); exact HO279.out) hb); have n1_ := Aside0.mk (Kd.R_lower ho0 (below_size (by repeat (first | (with_reducible first | exact HB.out | apply below_alloc | apply pw_below_drewN | apply below_drew1) | exact HB.out)))); have n2_ := Aside0.mk (below_step (by repeat (first | (with_reducible first | exact HB.out | apply below_alloc | apply pw_below_drewN | apply below_drew1) | exact HB.out)) hb); clear HO279; clear HB; have HO279 := n0_; have HO282 := n1_; have HB := n2_; clear n0_ n1_ n2_; (try clear hb); (try clear hb2); (try clear hk); (try clear hi); (try clear ho0))))
        (try simp only [Act.put, List.setIfInBounds_toArray, List.set_cons_zero, List.set_cons_succ])
        go_cut [59] (fun v59 wc => ∃ (kq : Nat) (x59_13 : Bool), v59 = .bool x59_13 ∧ Aside0 (stepladderlaw21_VelvetSmooth.j1 kq l0 a1 a2 a3 t276 t277 t280 x59_13 = some r) ∧ Aside0 (kq ≤ kj6) ∧ Aside0 (Kd.R (Kd.int .i64) 3 wc w.heap.size (fun _ => True) v278 t276) ∧ Aside0 (Kd.R Kd.bool 4 wc w.heap.size (fun _ => True) v281 t280) ∧ Aside0 (Below w.heap.size w wc))
        case first => as_aux_lemma =>
          have H := HC14.out
          clear HC14
          replace H := Option.bind_eq_some_iff.mp H
          obtain ⟨t283, A170, H⟩ := H
          replace H : (if t283 = true then (if a1 ≥ 1 then (if a2 ≥ 1 then (stepladderlaw21_VelvetSmooth.j1 kj6 l0 a1 a2 a3 t276 t277 t280 (t277 != (decide ((l0.length : Int) > a2)))) else (stepladderlaw21_VelvetSmooth.j1 kj6 l0 a1 a2 a3 t276 t277 t280 (t277 != false))) else (stepladderlaw21_VelvetSmooth.j1 kj6 l0 a1 a2 a3 t276 t277 t280 (t277 != false))) else (stepladderlaw21_VelvetSmooth.j1 kj6 l0 a1 a2 a3 t276 t277 t280 (t277 != false))) = some r := H
          have A17 := Aside0.mk A170
          clear A170
          by_cases c18 : t283 = true
          · subst c18
            have H1 : (if a1 ≥ 1 then (if a2 ≥ 1 then (stepladderlaw21_VelvetSmooth.j1 kj6 l0 a1 a2 a3 t276 t277 t280 (t277 != (decide ((l0.length : Int) > a2)))) else (stepladderlaw21_VelvetSmooth.j1 kj6 l0 a1 a2 a3 t276 t277 t280 (t277 != false))) else (stepladderlaw21_VelvetSmooth.j1 kj6 l0 a1 a2 a3 t276 t277 t280 (t277 != false))) = some r := by rw [if_pos rfl] at H; exact H
            clear H
            have H := H1
            clear H1
            by_cases c19 : a1 ≥ 1
            · rw [if_pos c19] at H
              have c19b0 : decide (1 ≤ a1) = true := decide_eq_true c19
              clear c19
              (first | rw [c19b0] | (simp only [i64_w, i32_w]; rw [c19b0]) | skip)
              by_cases c20 : a2 ≥ 1
              · rw [if_pos c20] at H
                have c20b0 : decide (1 ≤ a2) = true := decide_eq_true c20
                clear c20
                have H' := Aside0.mk H
                clear H
                go_wp2_with (first | (go_at_call 23; (with_reducible refine (velvet_May.calls kj6 _ _ l0 true _ ?side1 ?side2 A17.out).mono ?_); (case side1 => repeat (first | exact (Kd.C_below HR0.out HB.out) | (with_reducible refine Kd.C_alloc ?_ _) | (with_reducible refine Kd.C_drewN ?_ _) | (with_reducible refine Kd.C_drew ?_))); (case side2 => exact HC0.out); rintro e w21 ⟨rfl, hb⟩; have n0_ := Aside0.mk (Kd.R_below (by (with_reducible repeat (first | apply Kd.R_alloc | apply Kd.R_drewN | apply Kd.R_drew)); exact HO279.out) hb); have n1_ := Aside0.mk (Kd.R_below (by (with_reducible repeat (first | apply Kd.R_alloc | apply Kd.R_drewN | apply Kd.R_drew)); exact HO282.out) hb); have n2_ := Aside0.mk (below_step (by repeat (first | (with_reducible first | exact HB.out | apply below_alloc | apply pw_below_drewN | apply below_drew1) | exact HB.out)) hb); clear HO279; clear HO282; clear HB; have HO279 := n0_; have HO282 := n1_; have HB := n2_; clear n0_ n1_ n2_; (try clear hb); (try clear hb2); (try clear hk); (try clear hi)))
                repeat (go_quiet (first | (go_at_call 23; (with_reducible refine (velvet_May.calls kj6 _ _ l0 true _ ?side1 ?side2 A17.out).mono ?_); (case side1 => repeat (first | exact (Kd.C_below HR0.out HB.out) | (with_reducible refine Kd.C_alloc ?_ _) | (with_reducible refine Kd.C_drewN ?_ _) | (with_reducible refine Kd.C_drew ?_))); (case side2 => exact HC0.out); rintro e w21 ⟨rfl, hb⟩; have n0_ := Aside0.mk (Kd.R_below (by (with_reducible repeat (first | apply Kd.R_alloc | apply Kd.R_drewN | apply Kd.R_drew)); exact HO279.out) hb); have n1_ := Aside0.mk (Kd.R_below (by (with_reducible repeat (first | apply Kd.R_alloc | apply Kd.R_drewN | apply Kd.R_drew)); exact HO282.out) hb); have n2_ := Aside0.mk (below_step (by repeat (first | (with_reducible first | exact HB.out | apply below_alloc | apply pw_below_drewN | apply below_drew1) | exact HB.out)) hb); clear HO279; clear HO282; clear HB; have HO279 := n0_; have HO282 := n1_; have HB := n2_; clear n0_ n1_ n2_; (try clear hb); (try clear hb2); (try clear hk); (try clear hi))); try go_wp2_with (first | (go_at_call 23; (with_reducible refine (velvet_May.calls kj6 _ _ l0 true _ ?side1 ?side2 A17.out).mono ?_); (case side1 => repeat (first | exact (Kd.C_below HR0.out HB.out) | (with_reducible refine Kd.C_alloc ?_ _) | (with_reducible refine Kd.C_drewN ?_ _) | (with_reducible refine Kd.C_drew ?_))); (case side2 => exact HC0.out); rintro e w21 ⟨rfl, hb⟩; have n0_ := Aside0.mk (Kd.R_below (by (with_reducible repeat (first | apply Kd.R_alloc | apply Kd.R_drewN | apply Kd.R_drew)); exact HO279.out) hb); have n1_ := Aside0.mk (Kd.R_below (by (with_reducible repeat (first | apply Kd.R_alloc | apply Kd.R_drewN | apply Kd.R_drew)); exact HO282.out) hb); have n2_ := Aside0.mk (below_step (by repeat (first | (with_reducible first | exact HB.out | apply below_alloc | apply pw_below_drewN | apply below_drew1) | exact HB.out)) hb); clear HO279; clear HO282; clear HB; have HO279 := n0_; have HO282 := n1_; have HB := n2_; clear n0_ n1_ n2_; (try clear hb); (try clear hb2); (try clear hk); (try clear hi))))
                go_meet
                case rel => exact ⟨_, ((t277 != (decide ((l0.length : Int) > a2)))), (by first | rfl | (simp; done) | (simp [*]; done)), H', ⟨by have := HJ6.out; first | omega | exact Nat.le_refl _⟩, ⟨by (with_reducible repeat (first | apply Kd.R_alloc | apply Kd.R_drewN | apply Kd.R_drew)); exact HO279.out⟩, ⟨by (with_reducible repeat (first | apply Kd.R_alloc | apply Kd.R_drewN | apply Kd.R_drew)); exact HO282.out⟩, ⟨by repeat (first | (with_reducible first | exact HB.out | apply below_alloc | apply pw_below_drewN | apply below_drew1) | exact HB.out)⟩⟩
              · rw [if_neg c20] at H
                have c20b0 : decide (1 ≤ a2) = false := decide_eq_false c20
                clear c20
                have H' := Aside0.mk H
                clear H
                go_wp2_with (first | (go_at_call 23; (with_reducible refine (velvet_May.calls kj6 _ _ l0 true _ ?side1 ?side2 A17.out).mono ?_); (case side1 => repeat (first | exact (Kd.C_below HR0.out HB.out) | (with_reducible refine Kd.C_alloc ?_ _) | (with_reducible refine Kd.C_drewN ?_ _) | (with_reducible refine Kd.C_drew ?_))); (case side2 => exact HC0.out); rintro e w22 ⟨rfl, hb⟩; have n0_ := Aside0.mk (Kd.R_below (by (with_reducible repeat (first | apply Kd.R_alloc | apply Kd.R_drewN | apply Kd.R_drew)); exact HO279.out) hb); have n1_ := Aside0.mk (Kd.R_below (by (with_reducible repeat (first | apply Kd.R_alloc | apply Kd.R_drewN | apply Kd.R_drew)); exact HO282.out) hb); have n2_ := Aside0.mk (below_step (by repeat (first | (with_reducible first | exact HB.out | apply below_alloc | apply pw_below_drewN | apply below_drew1) | exact HB.out)) hb); clear HO279; clear HO282; clear HB; have HO279 := n0_; have HO282 := n1_; have HB := n2_; clear n0_ n1_ n2_; (try clear hb); (try clear hb2); (try clear hk); (try clear hi)))
                repeat (go_quiet (first | (go_at_call 23; (with_reducible refine (velvet_May.calls kj6 _ _ l0 true _ ?side1 ?side2 A17.out).mono ?_); (case side1 => repeat (first | exact (Kd.C_below HR0.out HB.out) | (with_reducible refine Kd.C_alloc ?_ _) | (with_reducible refine Kd.C_drewN ?_ _) | (with_reducible refine Kd.C_drew ?_))); (case side2 => exact HC0.out); rintro e w22 ⟨rfl, hb⟩; have n0_ := Aside0.mk (Kd.R_below (by (with_reducible repeat (first | apply Kd.R_alloc | apply Kd.R_drewN | apply Kd.R_drew)); exact HO279.out) hb); have n1_ := Aside0.mk (Kd.R_below (by (with_reducible repeat (first | apply Kd.R_alloc | apply Kd.R_drewN | apply Kd.R_drew)); exact HO282.out) hb); have n2_ := Aside0.mk (below_step (by repeat (first | (with_reducible first | exact HB.out | apply below_alloc | apply pw_below_drewN | apply below_drew1) | exact HB.out)) hb); clear HO279; clear HO282; clear HB; have HO279 := n0_; have HO282 := n1_; have HB := n2_; clear n0_ n1_ n2_; (try clear hb); (try clear hb2); (try clear hk); (try clear hi))); try go_wp2_with (first | (go_at_call 23; (with_reducible refine (velvet_May.calls kj6 _ _ l0 true _ ?side1 ?side2 A17.out).mono ?_); (case side1 => repeat (first | exact (Kd.C_below HR0.out HB.out) | (with_reducible refine Kd.C_alloc ?_ _) | (with_reducible refine Kd.C_drewN ?_ _) | (with_reducible refine Kd.C_drew ?_))); (case side2 => exact HC0.out); rintro e w22 ⟨rfl, hb⟩; have n0_ := Aside0.mk (Kd.R_below (by (with_reducible repeat (first | apply Kd.R_alloc | apply Kd.R_drewN | apply Kd.R_drew)); exact HO279.out) hb); have n1_ := Aside0.mk (Kd.R_below (by (with_reducible repeat (first | apply Kd.R_alloc | apply Kd.R_drewN | apply Kd.R_drew)); exact HO282.out) hb); have n2_ := Aside0.mk (below_step (by repeat (first | (with_reducible first | exact HB.out | apply below_alloc | apply pw_below_drewN | apply below_drew1) | exact HB.out)) hb); clear HO279; clear HO282; clear HB; have HO279 := n0_; have HO282 := n1_; have HB := n2_; clear n0_ n1_ n2_; (try clear hb); (try clear hb2); (try clear hk); (try clear hi))))
                go_meet
                case rel => exact ⟨_, ((t277 != false)), (by first | rfl | (simp; done) | (simp [*]; done)), H', ⟨by have := HJ6.out; first | omega | exact Nat.le_refl _⟩, ⟨by (with_reducible repeat (first | apply Kd.R_alloc | apply Kd.R_drewN | apply Kd.R_drew)); exact HO279.out⟩, ⟨by (with_reducible repeat (first | apply Kd.R_alloc | apply Kd.R_drewN | apply Kd.R_drew)); exact HO282.out⟩, ⟨by repeat (first | (with_reducible first | exact HB.out | apply below_alloc | apply pw_below_drewN | apply below_drew1) | exact HB.out)⟩⟩
            · rw [if_neg c19] at H
              have c19b0 : decide (1 ≤ a1) = false := decide_eq_false c19
              clear c19
              (first | rw [c19b0] | (simp only [i64_w, i32_w]; rw [c19b0]) | skip)
              have H' := Aside0.mk H
              clear H
              go_wp2_with (first | (go_at_call 23; (with_reducible refine (velvet_May.calls kj6 _ _ l0 true _ ?side1 ?side2 A17.out).mono ?_); (case side1 => repeat (first | exact (Kd.C_below HR0.out HB.out) | (with_reducible refine Kd.C_alloc ?_ _) | (with_reducible refine Kd.C_drewN ?_ _) | (with_reducible refine Kd.C_drew ?_))); (case side2 => exact HC0.out); rintro e w23 ⟨rfl, hb⟩; have n0_ := Aside0.mk (Kd.R_below (by (with_reducible repeat (first | apply Kd.R_alloc | apply Kd.R_drewN | apply Kd.R_drew)); exact HO279.out) hb); have n1_ := Aside0.mk (Kd.R_below (by (with_reducible repeat (first | apply Kd.R_alloc | apply Kd.R_drewN | apply Kd.R_drew)); exact HO282.out) hb); have n2_ := Aside0.mk (below_step (by repeat (first | (with_reducible first | exact HB.out | apply below_alloc | apply pw_below_drewN | apply below_drew1) | exact HB.out)) hb); clear HO279; clear HO282; clear HB; have HO279 := n0_; have HO282 := n1_; have HB := n2_; clear n0_ n1_ n2_; (try clear hb); (try clear hb2); (try clear hk); (try clear hi)))
              repeat (go_quiet (first | (go_at_call 23; (with_reducible refine (velvet_May.calls kj6 _ _ l0 true _ ?side1 ?side2 A17.out).mono ?_); (case side1 => repeat (first | exact (Kd.C_below HR0.out HB.out) | (with_reducible refine Kd.C_alloc ?_ _) | (with_reducible refine Kd.C_drewN ?_ _) | (with_reducible refine Kd.C_drew ?_))); (case side2 => exact HC0.out); rintro e w23 ⟨rfl, hb⟩; have n0_ := Aside0.mk (Kd.R_below (by (with_reducible repeat (first | apply Kd.R_alloc | apply Kd.R_drewN | apply Kd.R_drew)); exact HO279.out) hb); have n1_ := Aside0.mk (Kd.R_below (by (with_reducible repeat (first | apply Kd.R_alloc | apply Kd.R_drewN | apply Kd.R_drew)); exact HO282.out) hb); have n2_ := Aside0.mk (below_step (by repeat (first | (with_reducible first | exact HB.out | apply below_alloc | apply pw_below_drewN | apply below_drew1) | exact HB.out)) hb); clear HO279; clear HO282; clear HB; have HO279 := n0_; have HO282 := n1_; have HB := n2_; clear n0_ n1_ n2_; (try clear hb); (try clear hb2); (try clear hk); (try clear hi))); try go_wp2_with (first | (go_at_call 23; (with_reducible refine (velvet_May.calls kj6 _ _ l0 true _ ?side1 ?side2 A17.out).mono ?_); (case side1 => repeat (first | exact (Kd.C_below HR0.out HB.out) | (with_reducible refine Kd.C_alloc ?_ _) | (with_reducible refine Kd.C_drewN ?_ _) | (with_reducible refine Kd.C_drew ?_))); (case side2 => exact HC0.out); rintro e w23 ⟨rfl, hb⟩; have n0_ := Aside0.mk (Kd.R_below (by (with_reducible repeat (first | apply Kd.R_alloc | apply Kd.R_drewN | apply Kd.R_drew)); exact HO279.out) hb); have n1_ := Aside0.mk (Kd.R_below (by (with_reducible repeat (first | apply Kd.R_alloc | apply Kd.R_drewN | apply Kd.R_drew)); exact HO282.out) hb); have n2_ := Aside0.mk (below_step (by repeat (first | (with_reducible first | exact HB.out | apply below_alloc | apply pw_below_drewN | apply below_drew1) | exact HB.out)) hb); clear HO279; clear HO282; clear HB; have HO279 := n0_; have HO282 := n1_; have HB := n2_; clear n0_ n1_ n2_; (try clear hb); (try clear hb2); (try clear hk); (try clear hi))))
              go_meet
              case rel => exact ⟨_, ((t277 != false)), (by first | rfl | (simp; done) | (simp [*]; done)), H', ⟨by have := HJ6.out; first | omega | exact Nat.le_refl _⟩, ⟨by (with_reducible repeat (first | apply Kd.R_alloc | apply Kd.R_drewN | apply Kd.R_drew)); exact HO279.out⟩, ⟨by (with_reducible repeat (first | apply Kd.R_alloc | apply Kd.R_drewN | apply Kd.R_drew)); exact HO282.out⟩, ⟨by repeat (first | (with_reducible first | exact HB.out | apply below_alloc | apply pw_below_drewN | apply below_drew1) | exact HB.out)⟩⟩
          · replace c18 := Bool.eq_false_iff.mpr c18
            subst c18
            have H1 : (stepladderlaw21_VelvetSmooth.j1 kj6 l0 a1 a2 a3 t276 t277 t280 (t277 != false)) = some r := by rw [if_neg (show ¬ (false = true) by decide)] at H; exact H
            clear H
            have H := H1
            clear H1
            have H' := Aside0.mk H
            clear H
            go_wp2_with (first | (go_at_call 23; (with_reducible refine (velvet_May.calls kj6 _ _ l0 false _ ?side1 ?side2 A17.out).mono ?_); (case side1 => repeat (first | exact (Kd.C_below HR0.out HB.out) | (with_reducible refine Kd.C_alloc ?_ _) | (with_reducible refine Kd.C_drewN ?_ _) | (with_reducible refine Kd.C_drew ?_))); (case side2 => exact HC0.out); rintro e w24 ⟨rfl, hb⟩; have n0_ := Aside0.mk (Kd.R_below (by (with_reducible repeat (first | apply Kd.R_alloc | apply Kd.R_drewN | apply Kd.R_drew)); exact HO279.out) hb); have n1_ := Aside0.mk (Kd.R_below (by (with_reducible repeat (first | apply Kd.R_alloc | apply Kd.R_drewN | apply Kd.R_drew)); exact HO282.out) hb); have n2_ := Aside0.mk (below_step (by repeat (first | (with_reducible first | exact HB.out | apply below_alloc | apply pw_below_drewN | apply below_drew1) | exact HB.out)) hb); clear HO279; clear HO282; clear HB; have HO279 := n0_; have HO282 := n1_; have HB := n2_; clear n0_ n1_ n2_; (try clear hb); (try clear hb2); (try clear hk); (try clear hi)))
            repeat (go_quiet (first | (go_at_call 23; (with_reducible refine (velvet_May.calls kj6 _ _ l0 false _ ?side1 ?side2 A17.out).mono ?_); (case side1 => repeat (first | exact (Kd.C_below HR0.out HB.out) | (with_reducible refine Kd.C_alloc ?_ _) | (with_reducible refine Kd.C_drewN ?_ _) | (with_reducible refine Kd.C_drew ?_))); (case side2 => exact HC0.out); rintro e w24 ⟨rfl, hb⟩; have n0_ := Aside0.mk (Kd.R_below (by (with_reducible repeat (first | apply Kd.R_alloc | apply Kd.R_drewN | apply Kd.R_drew)); exact HO279.out) hb); have n1_ := Aside0.mk (Kd.R_below (by (with_reducible repeat (first | apply Kd.R_alloc | apply Kd.R_drewN | apply Kd.R_drew)); exact HO282.out) hb); have n2_ := Aside0.mk (below_step (by repeat (first | (with_reducible first | exact HB.out | apply below_alloc | apply pw_below_drewN | apply below_drew1) | exact HB.out)) hb); clear HO279; clear HO282; clear HB; have HO279 := n0_; have HO282 := n1_; have HB := n2_; clear n0_ n1_ n2_; (try clear hb); (try clear hb2); (try clear hk); (try clear hi))); try go_wp2_with (first | (go_at_call 23; (with_reducible refine (velvet_May.calls kj6 _ _ l0 false _ ?side1 ?side2 A17.out).mono ?_); (case side1 => repeat (first | exact (Kd.C_below HR0.out HB.out) | (with_reducible refine Kd.C_alloc ?_ _) | (with_reducible refine Kd.C_drewN ?_ _) | (with_reducible refine Kd.C_drew ?_))); (case side2 => exact HC0.out); rintro e w24 ⟨rfl, hb⟩; have n0_ := Aside0.mk (Kd.R_below (by (with_reducible repeat (first | apply Kd.R_alloc | apply Kd.R_drewN | apply Kd.R_drew)); exact HO279.out) hb); have n1_ := Aside0.mk (Kd.R_below (by (with_reducible repeat (first | apply Kd.R_alloc | apply Kd.R_drewN | apply Kd.R_drew)); exact HO282.out) hb); have n2_ := Aside0.mk (below_step (by repeat (first | (with_reducible first | exact HB.out | apply below_alloc | apply pw_below_drewN | apply below_drew1) | exact HB.out)) hb); clear HO279; clear HO282; clear HB; have HO279 := n0_; have HO282 := n1_; have HB := n2_; clear n0_ n1_ n2_; (try clear hb); (try clear hb2); (try clear hk); (try clear hi))))
            go_meet
            case rel => exact ⟨_, ((t277 != false)), (by first | rfl | (simp; done) | (simp [*]; done)), H', ⟨by have := HJ6.out; first | omega | exact Nat.le_refl _⟩, ⟨by (with_reducible repeat (first | apply Kd.R_alloc | apply Kd.R_drewN | apply Kd.R_drew)); exact HO279.out⟩, ⟨by (with_reducible repeat (first | apply Kd.R_alloc | apply Kd.R_drewN | apply Kd.R_drew)); exact HO282.out⟩, ⟨by repeat (first | (with_reducible first | exact HB.out | apply below_alloc | apply pw_below_drewN | apply below_drew1) | exact HB.out)⟩⟩
        case rest => as_aux_lemma =>
          clear HC14
          try clear c1
          try clear c2
          try clear p2
          try clear c4
          try clear c9
          try clear c10
          try clear c11
          try clear c18
          try clear c19
          try clear c19b0
          try clear c20
          try clear c20b0
          try clear p2
          obtain ⟨kq, x59_13, rfl, HA, HJ13, HO_11, HO_13, HB⟩ := hcut
          cases kq with
          | zero => exact absurd HA.out (by simp [stepladderlaw21_VelvetSmooth.j1])
          | succ kj13 =>
            have H := HA.out
            clear HA
            simp only [stepladderlaw21_VelvetSmooth.j1] at H
            by_cases c25 : x59_13 = true
            · subst c25
              have H1 : (some false) = some r := by rw [if_pos rfl] at H; exact H
              clear H
              have H := H1
              clear H1
              obtain rfl := Option.some.inj H
              go_wp2
              repeat (go_quiet (fail); try go_wp2)
              go_ret
              exact ⟨by first | rfl | (simp [errW_none, errW_some] <;> rfl) | (simp [*, errW_none, errW_some] <;> rfl), by repeat (first | (with_reducible first | exact HB.out | apply below_alloc | apply pw_below_drewN | apply below_drew1) | exact HB.out)⟩
            · replace c25 := Bool.eq_false_iff.mpr c25
              subst c25
              have H1 : (if t277 = true then (if (t276.length : Int) = 0 then (stepladderlaw21_VelvetSmooth.j2 kj13 l0 a1 a2 a3 t276 t280 true) else (if 0 < (t276.length : Int) then (if (rd t276 0) = 0 then (if (t280.length : Int) = (l0.length : Int) then (if a2 < 1 then (stepladderlaw21_VelvetSmooth.j2 kj13 l0 a1 a2 a3 t276 t280 true) else (stepladderlaw21_VelvetSmooth.j2 kj13 l0 a1 a2 a3 t276 t280 (decide (a2 ≥ (l0.length : Int))))) else (stepladderlaw21_VelvetSmooth.j2 kj13 l0 a1 a2 a3 t276 t280 true)) else (stepladderlaw21_VelvetSmooth.j2 kj13 l0 a1 a2 a3 t276 t280 true)) else (none))) else (some ((t276.length : Int) == 0))) = some r := by rw [if_neg (show ¬ (false = true) by decide)] at H; exact H
              clear H
              have H := H1
              clear H1
              by_cases c26 : t277 = true
              · subst c26
                have H1 : (if (t276.length : Int) = 0 then (stepladderlaw21_VelvetSmooth.j2 kj13 l0 a1 a2 a3 t276 t280 true) else (if 0 < (t276.length : Int) then (if (rd t276 0) = 0 then (if (t280.length : Int) = (l0.length : Int) then (if a2 < 1 then (stepladderlaw21_VelvetSmooth.j2 kj13 l0 a1 a2 a3 t276 t280 true) else (stepladderlaw21_VelvetSmooth.j2 kj13 l0 a1 a2 a3 t276 t280 (decide (a2 ≥ (l0.length : Int))))) else (stepladderlaw21_VelvetSmooth.j2 kj13 l0 a1 a2 a3 t276 t280 true)) else (stepladderlaw21_VelvetSmooth.j2 kj13 l0 a1 a2 a3 t276 t280 true)) else (none))) = some r := by rw [if_pos rfl] at H; exact H
                clear H
                have H := H1
                clear H1
                have HC27 := Aside0.mk H
                clear H
                go_upto_region 11 with (fail)
                repeat (go_quiet (fail); go_upto_region 11 with (fail))
                go_cut [90] (fun v90 wc => ∃ (kq : Nat) (x90_26 : Bool), v90 = .bool x90_26 ∧ Aside0 (stepladderlaw21_VelvetSmooth.j2 kq l0 a1 a2 a3 t276 t280 x90_26 = some r) ∧ Aside0 (kq ≤ kj13) ∧ Aside0 (Kd.R (Kd.int .i64) 3 wc w.heap.size (fun _ => True) v278 t276) ∧ Aside0 (Kd.R Kd.bool 4 wc w.heap.size (fun _ => True) v281 t280) ∧ Aside0 (Below w.heap.size w wc))
                case first => as_aux_lemma =>
                  have H := HC27.out
                  clear HC27
                  by_cases c28 : (t276.length : Int) = 0
                  · rw [if_pos c28] at H
                    have c28b0 : ((t276.length : Int) == 0) = true := beq_iff_eq.mpr c28
                    have c28b1 : ((t276.length : Int) != 0) = false := bne_eq_false_iff_eq.mpr c28
                    clear c28
                    (first | rw [c28b0] | (simp only [i64_w, i32_w]; rw [c28b0]) | skip)
                    have H' := Aside0.mk H
                    clear H
                    obtain ⟨Ao29, co29, eo29⟩ := Kd.R_slice HO_11.out
                    subst eo29
                    go_wp2
                    repeat (go_quiet (fail); try go_wp2)
                    go_meet
                    case rel => exact ⟨_, (true), (by first | rfl | (simp; done) | (simp [*]; done)), H', ⟨by have := HJ6.out; have := HJ13.out; first | omega | exact Nat.le_refl _⟩, ⟨by (with_reducible repeat (first | apply Kd.R_alloc | apply Kd.R_drewN | apply Kd.R_drew)); exact HO_11.out⟩, ⟨by (with_reducible repeat (first | apply Kd.R_alloc | apply Kd.R_drewN | apply Kd.R_drew)); exact HO_13.out⟩, ⟨by repeat (first | (with_reducible first | exact HB.out | apply below_alloc | apply pw_below_drewN | apply below_drew1) | exact HB.out)⟩⟩
                  · rw [if_neg c28] at H
                    have c28b0 : ((t276.length : Int) == 0) = false := beq_eq_false_iff_ne.mpr c28
                    have c28b1 : ((t276.length : Int) != 0) = true := bne_iff_ne.mpr c28
                    have c28b2 : ¬ (t276 = []) := fun h_ => c28 (by rw [h_]; rfl)
                    (first | rw [c28b0] | (simp only [i64_w, i32_w]; rw [c28b0]) | skip)
                    by_cases c30 : 0 < (t276.length : Int)
                    · rw [if_pos c30] at H
                      have c30b0 : decide (0 < (t276.length : Int)) = true := decide_eq_true c30
                      have c30b1 : decide (0 < t276.length) = true := decide_eq_true (by omega)
                      clear c30
                      by_cases c31 : (rd t276 0) = 0
                      · rw [if_pos c31] at H
                        have c31b0 : ((rd t276 0) == 0) = true := beq_iff_eq.mpr c31
                        have c31b1 : ((rd t276 0) != 0) = false := bne_eq_false_iff_eq.mpr c31
                        clear c31
                        by_cases c32 : (t280.length : Int) = (l0.length : Int)
                        · rw [if_pos c32] at H
                          have c32b0 : ((t280.length : Int) == (l0.length : Int)) = true := beq_iff_eq.mpr c32
                          have c32b1 : ((t280.length : Int) != (l0.length : Int)) = false := bne_eq_false_iff_eq.mpr c32
                          have c32b2 : (t280.length == l0.length) = true := by first | simpa using c32 | (simp at c32 ⊢; omega)
                          clear c32
                          by_cases c33 : a2 < 1
                          · rw [if_pos c33] at H
                            have c33b0 : decide (a2 < 1) = true := decide_eq_true c33
                            clear c33
                            have H' := Aside0.mk H
                            clear H
                            obtain ⟨Ao34, co34, eo34⟩ := Kd.R_slice HO_11.out
                            subst eo34
                            have p284 : 0 ≤ (0 : Int) := (by omega)
                            have q284 : 0 < (t276.length : Int) := of_decide_eq_true (by first | (with_reducible assumption) | assumption)
                            obtain ⟨ad284, e284, hx284_0⟩ := Kd.at_int (Kd.R_reads' HO_11.out).2.2 0 p284 q284
                            cases e284
                            have qi284 : (0 < t276.length) = True := eq_true (by omega)
                            (try rw [show ((0 : Int)).toNat = 0 from rfl] at hx284_0)
                            (try rw [Addr.add_zero'] at hx284_0)
                            replace p284 := eq_true p284
                            replace q284 := eq_true q284
                            obtain ⟨Ao35, co35, eo35⟩ := Kd.R_slice HO_13.out
                            subst eo35
                            go_wp2
                            repeat (go_quiet (fail); try go_wp2)
                            go_meet
                            case rel => exact ⟨_, (true), (by first | rfl | (simp; done) | (simp [*]; done)), H', ⟨by have := HJ6.out; have := HJ13.out; first | omega | exact Nat.le_refl _⟩, ⟨by (with_reducible repeat (first | apply Kd.R_alloc | apply Kd.R_drewN | apply Kd.R_drew)); exact HO_11.out⟩, ⟨by (with_reducible repeat (first | apply Kd.R_alloc | apply Kd.R_drewN | apply Kd.R_drew)); exact HO_13.out⟩, ⟨by repeat (first | (with_reducible first | exact HB.out | apply below_alloc | apply pw_below_drewN | apply below_drew1) | exact HB.out)⟩⟩
                          · rw [if_neg c33] at H
                            have c33b0 : decide (a2 < 1) = false := decide_eq_false c33
                            clear c33
                            have H' := Aside0.mk H
                            clear H
                            obtain ⟨Ao36, co36, eo36⟩ := Kd.R_slice HO_11.out
                            subst eo36
                            have p284 : 0 ≤ (0 : Int) := (by omega)
                            have q284 : 0 < (t276.length : Int) := of_decide_eq_true (by first | (with_reducible assumption) | assumption)
                            obtain ⟨ad284, e284, hx284_0⟩ := Kd.at_int (Kd.R_reads' HO_11.out).2.2 0 p284 q284
                            cases e284
                            have qi284 : (0 < t276.length) = True := eq_true (by omega)
                            (try rw [show ((0 : Int)).toNat = 0 from rfl] at hx284_0)
                            (try rw [Addr.add_zero'] at hx284_0)
                            replace p284 := eq_true p284
                            replace q284 := eq_true q284
                            obtain ⟨Ao37, co37, eo37⟩ := Kd.R_slice HO_13.out
                            subst eo37
                            go_wp2
                            repeat (go_quiet (fail); try go_wp2)
                            go_meet
                            case rel => exact ⟨_, (decide (a2 ≥ (l0.length : Int))), (by first | rfl | (simp; done) | (simp [*]; done)), H', ⟨by have := HJ6.out; have := HJ13.out; first | omega | exact Nat.le_refl _⟩, ⟨by (with_reducible repeat (first | apply Kd.R_alloc | apply Kd.R_drewN | apply Kd.R_drew)); exact HO_11.out⟩, ⟨by (with_reducible repeat (first | apply Kd.R_alloc | apply Kd.R_drewN | apply Kd.R_drew)); exact HO_13.out⟩, ⟨by repeat (first | (with_reducible first | exact HB.out | apply below_alloc | apply pw_below_drewN | apply below_drew1) | exact HB.out)⟩⟩
                        · rw [if_neg c32] at H
                          have c32b0 : ((t280.length : Int) == (l0.length : Int)) = false := beq_eq_false_iff_ne.mpr c32
                          have c32b1 : ((t280.length : Int) != (l0.length : Int)) = true := bne_iff_ne.mpr c32
                          have c32b2 : (t280.length == l0.length) = false := by first | simpa using c32 | (simp at c32 ⊢; omega)
                          have H' := Aside0.mk H
                          clear H
                          obtain ⟨Ao38, co38, eo38⟩ := Kd.R_slice HO_11.out
                          subst eo38
                          have p284 : 0 ≤ (0 : Int) := (by omega)
                          have q284 : 0 < (t276.length : Int) := of_decide_eq_true (by first | (with_reducible assumption) | assumption)
                          obtain ⟨ad284, e284, hx284_0⟩ := Kd.at_int (Kd.R_reads' HO_11.out).2.2 0 p284 q284
                          cases e284
                          have qi284 : (0 < t276.length) = True := eq_true (by omega)
                          (try rw [show ((0 : Int)).toNat = 0 from rfl] at hx284_0)
                          (try rw [Addr.add_zero'] at hx284_0)
                          replace p284 := eq_true p284
                          replace q284 := eq_true q284
                          obtain ⟨Ao39, co39, eo39⟩ := Kd.R_slice HO_13.out
                          subst eo39
                          go_wp2
                          repeat (go_quiet (fail); try go_wp2)
                          go_meet
                          case rel => exact ⟨_, (true), (by first | rfl | (simp; done) | (simp [*]; done)), H', ⟨by have := HJ6.out; have := HJ13.out; first | omega | exact Nat.le_refl _⟩, ⟨by (with_reducible repeat (first | apply Kd.R_alloc | apply Kd.R_drewN | apply Kd.R_drew)); exact HO_11.out⟩, ⟨by (with_reducible repeat (first | apply Kd.R_alloc | apply Kd.R_drewN | apply Kd.R_drew)); exact HO_13.out⟩, ⟨by repeat (first | (with_reducible first | exact HB.out | apply below_alloc | apply pw_below_drewN | apply below_drew1) | exact HB.out)⟩⟩
                      · rw [if_neg c31] at H
                        have c31b0 : ((rd t276 0) == 0) = false := beq_eq_false_iff_ne.mpr c31
                        have c31b1 : ((rd t276 0) != 0) = true := bne_iff_ne.mpr c31
                        have H' := Aside0.mk H
                        clear H
                        obtain ⟨Ao40, co40, eo40⟩ := Kd.R_slice HO_11.out
                        subst eo40
                        have p284 : 0 ≤ (0 : Int) := (by omega)
                        have q284 : 0 < (t276.length : Int) := of_decide_eq_true (by first | (with_reducible assumption) | assumption)
                        obtain ⟨ad284, e284, hx284_0⟩ := Kd.at_int (Kd.R_reads' HO_11.out).2.2 0 p284 q284
                        cases e284
                        have qi284 : (0 < t276.length) = True := eq_true (by omega)
                        (try rw [show ((0 : Int)).toNat = 0 from rfl] at hx284_0)
                        (try rw [Addr.add_zero'] at hx284_0)
                        replace p284 := eq_true p284
                        replace q284 := eq_true q284
                        go_wp2
                        repeat (go_quiet (fail); try go_wp2)
                        go_meet
                        case rel => exact ⟨_, (true), (by first | rfl | (simp; done) | (simp [*]; done)), H', ⟨by have := HJ6.out; have := HJ13.out; first | omega | exact Nat.le_refl _⟩, ⟨by (with_reducible repeat (first | apply Kd.R_alloc | apply Kd.R_drewN | apply Kd.R_drew)); exact HO_11.out⟩, ⟨by (with_reducible repeat (first | apply Kd.R_alloc | apply Kd.R_drewN | apply Kd.R_drew)); exact HO_13.out⟩, ⟨by repeat (first | (with_reducible first | exact HB.out | apply below_alloc | apply pw_below_drewN | apply below_drew1) | exact HB.out)⟩⟩
                    · rw [if_neg c30] at H
                      exact absurd H (by simp)
                case rest => as_aux_lemma =>
                  clear HC27
                  try clear c1
                  try clear c2
                  try clear p2
                  try clear q2
                  try clear hx2
                  try clear qi2
                  try clear c3
                  try clear c4
                  try clear c9
                  try clear c10
                  try clear c11
                  try clear c18
                  try clear c19
                  try clear c19b0
                  try clear c20
                  try clear c20b0
                  try clear c25
                  try clear c26
                  try clear c28
                  try clear c28b0
                  try clear c28b1
                  try clear c28b2
                  try clear p28
                  try clear q28
                  try clear hx28
                  try clear qi28
                  try clear c30
                  try clear c30b0
                  try clear c30b1
                  try clear c31
                  try clear c31b0
                  try clear c31b1
                  try clear c32
                  try clear c32b0
                  try clear c32b1
                  try clear c32b2
                  try clear c33
                  try clear c33b0
                  try clear hx284_0
                  try clear p2
                  try clear p284
                  try clear q284
                  obtain ⟨kq, x90_26, rfl, HA, HJ26, HO_11, HO_13, HB⟩ := hcut
                  cases kq with
                  | zero => exact absurd HA.out (by simp [stepladderlaw21_VelvetSmooth.j2])
                  | succ kj26 =>
                    have H := HA.out
                    clear HA
                    simp only [stepladderlaw21_VelvetSmooth.j2] at H
                    by_cases c41 : x90_26 = true
                    · subst c41
                      have H1 : (some false) = some r := by rw [if_pos rfl] at H; exact H
                      clear H
                      have H := H1
                      clear H1
                      obtain rfl := Option.some.inj H
                      go_wp2
                      repeat (go_quiet (fail); try go_wp2)
                      go_ret
                      exact ⟨by first | rfl | (simp [errW_none, errW_some] <;> rfl) | (simp [*, errW_none, errW_some] <;> rfl), by repeat (first | (with_reducible first | exact HB.out | apply below_alloc | apply pw_below_drewN | apply below_drew1) | exact HB.out)⟩
                    · replace c41 := Bool.eq_false_iff.mpr c41
                      subst c41
                      have H1 : (stepladderlaw21_VelvetSmooth.l0 kj26 l0 a1 a2 a3 t276 t280 0) = some r := by rw [if_neg (show ¬ (false = true) by decide)] at H; exact H
                      clear H
                      have H := H1
                      clear H1
                      have H' := Aside0.mk H
                      clear H
                      go_wp2
                      repeat (go_quiet (fail); try go_wp2)
                      go_loopg [14] kj26 (fun kq v14 w' => ∃ (x14_4 : Int), v14 = .int .i64 x14_4 ∧ Aside0 (stepladderlaw21_VelvetSmooth.l0 kq l0 a1 a2 a3 t276 t280 x14_4 = some r) ∧ Aside0 (kq ≤ kj26) ∧ Aside0 (Kd.R (Kd.int .i64) 3 w' w.heap.size (fun _ => True) v278 t276) ∧ Aside0 (Kd.R Kd.bool 4 w' w.heap.size (fun _ => True) v281 t280) ∧ Aside0 (Below w.heap.size w w'))
                      case atStart => exact ⟨(0), (by first | rfl | (simp; done) | (simp [*]; done)), H', ⟨Nat.le_refl _⟩, ⟨by (with_reducible repeat (first | apply Kd.R_alloc | apply Kd.R_drewN | apply Kd.R_drew)); exact HO_11.out⟩, ⟨by (with_reducible repeat (first | apply Kd.R_alloc | apply Kd.R_drewN | apply Kd.R_drew)); exact HO_13.out⟩, ⟨by repeat (first | (with_reducible first | exact HB.out | apply below_alloc | apply pw_below_drewN | apply below_drew1) | exact HB.out)⟩⟩
                      case round => as_aux_lemma =>
                        clear H'
                        try clear c1
                        try clear c2
                        try clear p2
                        try clear q2
                        try clear hx2
                        try clear qi2
                        try clear c3
                        try clear c4
                        try clear c9
                        try clear c10
                        try clear c11
                        try clear c18
                        try clear c19
                        try clear c19b0
                        try clear c20
                        try clear c20b0
                        try clear c25
                        try clear c26
                        try clear c28
                        try clear c28b0
                        try clear c28b1
                        try clear c28b2
                        try clear p28
                        try clear q28
                        try clear hx28
                        try clear qi28
                        try clear c30
                        try clear c30b0
                        try clear c30b1
                        try clear c31
                        try clear c31b0
                        try clear c31b1
                        try clear c32
                        try clear c32b0
                        try clear c32b1
                        try clear c32b2
                        try clear c33
                        try clear c33b0
                        try clear c41
                        try clear hx284_0
                        try clear p2
                        try clear p28
                        try clear p284
                        try clear q2
                        try clear q28
                        try clear q284
                        obtain ⟨x14_4, rfl, HA, HK4, HO_11, HO_13, HB⟩ := hrel
                        cases gk with
                        | zero => exact absurd HA.out (by simp [stepladderlaw21_VelvetSmooth.l0])
                        | succ k4 =>
                          have H := HA.out
                          clear HA
                          simp only [stepladderlaw21_VelvetSmooth.l0] at H
                          by_cases c42 : x14_4 < (t276.length : Int)
                          · rw [if_pos c42] at H
                            have c42b0 : decide (x14_4 < (t276.length : Int)) = true := decide_eq_true c42
                            clear c42
                            by_cases c43 : 0 ≤ x14_4
                            · rw [if_pos c43] at H
                              have c43b0 : decide (0 ≤ x14_4) = true := decide_eq_true c43
                              clear c43
                              by_cases c44 : (rd t276 x14_4) < 0
                              · rw [if_pos c44] at H
                                have c44b0 : decide ((rd t276 x14_4) < 0) = true := decide_eq_true c44
                                clear c44
                                obtain rfl := Option.some.inj H
                                obtain ⟨Ao45, co45, eo45⟩ := Kd.R_slice HO_11.out
                                subst eo45
                                have p285 : 0 ≤ (x14_4 : Int) := of_decide_eq_true (by first | (with_reducible assumption) | assumption)
                                have q285 : x14_4 < (t276.length : Int) := of_decide_eq_true (by first | (with_reducible assumption) | assumption)
                                obtain ⟨ad285, e285, hx285_0⟩ := Kd.at_int (Kd.R_reads' HO_11.out).2.2 x14_4 p285 q285
                                cases e285
                                replace p285 := eq_true p285
                                replace q285 := eq_true q285
                                go_wp2
                                repeat (go_quiet (fail); try go_wp2)
                                go_ret
                                exact ⟨by first | rfl | (simp [errW_none, errW_some] <;> rfl) | (simp [*, errW_none, errW_some] <;> rfl), by repeat (first | (with_reducible first | exact HB.out | apply below_alloc | apply pw_below_drewN | apply below_drew1) | exact HB.out)⟩
                              · rw [if_neg c44] at H
                                have c44b0 : decide ((rd t276 x14_4) < 0) = false := decide_eq_false c44
                                clear c44
                                by_cases c46 : (rd t276 x14_4) ≥ (wrap64 ((l0.length : Int) - a2))
                                · rw [if_pos c46] at H
                                  have c46b0 : decide ((wrap64 ((l0.length : Int) - a2)) ≤ (rd t276 x14_4)) = true := decide_eq_true c46
                                  clear c46
                                  obtain rfl := Option.some.inj H
                                  obtain ⟨Ao47, co47, eo47⟩ := Kd.R_slice HO_11.out
                                  subst eo47
                                  have p285 : 0 ≤ (x14_4 : Int) := of_decide_eq_true (by first | (with_reducible assumption) | assumption)
                                  have q285 : x14_4 < (t276.length : Int) := of_decide_eq_true (by first | (with_reducible assumption) | assumption)
                                  obtain ⟨ad285, e285, hx285_0⟩ := Kd.at_int (Kd.R_reads' HO_11.out).2.2 x14_4 p285 q285
                                  cases e285
                                  replace p285 := eq_true p285
                                  replace q285 := eq_true q285
                                  have p286 : 0 ≤ (x14_4 : Int) := of_decide_eq_true (by first | (with_reducible assumption) | assumption)
                                  have q286 : x14_4 < (t276.length : Int) := of_decide_eq_true (by first | (with_reducible assumption) | assumption)
                                  obtain ⟨ad286, e286, hx286_0⟩ := Kd.at_int (Kd.R_reads' HO_11.out).2.2 x14_4 p286 q286
                                  obtain rfl : ad285 = ad286 := (by injection e286)
                                  replace p286 := eq_true p286
                                  replace q286 := eq_true q286
                                  go_wp2
                                  repeat (go_quiet (fail); try go_wp2)
                                  go_ret
                                  exact ⟨by first | rfl | (simp [errW_none, errW_some] <;> rfl) | (simp [*, errW_none, errW_some] <;> rfl), by repeat (first | (with_reducible first | exact HB.out | apply below_alloc | apply pw_below_drewN | apply below_drew1) | exact HB.out)⟩
                                · rw [if_neg c46] at H
                                  have c46b0 : decide ((wrap64 ((l0.length : Int) - a2)) ≤ (rd t276 x14_4)) = false := decide_eq_false c46
                                  clear c46
                                  by_cases c48 : 0 ≤ (rd t276 x14_4)
                                  · rw [if_pos c48] at H
                                    have c48b0 : decide (0 ≤ (rd t276 x14_4)) = true := decide_eq_true c48
                                    clear c48
                                    by_cases c49 : (rd t276 x14_4) < (t280.length : Int)
                                    · rw [if_pos c49] at H
                                      have c49b0 : decide ((rd t276 x14_4) < (t280.length : Int)) = true := decide_eq_true c49
                                      clear c49
                                      obtain ⟨bq50, hbq50⟩ : ∃ b_ : Bool, b_ = (rdOf false t280 (rd t276 x14_4)) := ⟨_, rfl⟩
                                      replace H : (if (bq50 = true) then (if x14_4 > 0 then (if 0 ≤ (wrap64 (x14_4 - 1)) then (if (wrap64 (x14_4 - 1)) < (t276.length : Int) then (if (rd t276 x14_4) ≤ (rd t276 (wrap64 (x14_4 - 1))) then (some false) else (stepladderlaw21_VelvetSmooth.l0 k4 l0 a1 a2 a3 t276 t280 (wrap64 (x14_4 + 1)))) else (none)) else (none)) else (stepladderlaw21_VelvetSmooth.l0 k4 l0 a1 a2 a3 t276 t280 (wrap64 (x14_4 + 1)))) else (some false)) = some r := by rw [← hbq50] at H; exact H
                                      have Nbq50 := Aside0.mk hbq50
                                      clear hbq50
                                      by_cases c51 : (bq50 = true)
                                      · subst c51
                                        have H1 : (if x14_4 > 0 then (if 0 ≤ (wrap64 (x14_4 - 1)) then (if (wrap64 (x14_4 - 1)) < (t276.length : Int) then (if (rd t276 x14_4) ≤ (rd t276 (wrap64 (x14_4 - 1))) then (some false) else (stepladderlaw21_VelvetSmooth.l0 k4 l0 a1 a2 a3 t276 t280 (wrap64 (x14_4 + 1)))) else (none)) else (none)) else (stepladderlaw21_VelvetSmooth.l0 k4 l0 a1 a2 a3 t276 t280 (wrap64 (x14_4 + 1)))) = some r := by rw [if_pos rfl] at H; exact H
                                        clear H
                                        have H := H1
                                        clear H1
                                        by_cases c52 : x14_4 > 0
                                        · rw [if_pos c52] at H
                                          have c52b0 : decide (0 < x14_4) = true := decide_eq_true c52
                                          clear c52
                                          obtain ⟨ji53, hji53⟩ : ∃ j_ : Int, (wrap64 (x14_4 - 1)) = j_ := ⟨_, rfl⟩
                                          replace H : (if 0 ≤ (ji53) then (if (ji53) < (t276.length : Int) then (if (rd t276 x14_4) ≤ (rd t276 (ji53)) then (some false) else (stepladderlaw21_VelvetSmooth.l0 k4 l0 a1 a2 a3 t276 t280 (wrap64 (x14_4 + 1)))) else (none)) else (none)) = some r := by first | (rw [hji53] at H; exact H) | (simp only [hji53] at H ⊢; exact H)
                                          have hji53w : (IntKind.i64.wrap (x14_4 - 1)) = ji53 := (i64_w _).trans hji53
                                          by_cases c54 : 0 ≤ (ji53)
                                          · rw [if_pos c54] at H
                                            have c54b0 : decide (0 ≤ (ji53)) = true := decide_eq_true c54
                                            clear c54
                                            by_cases c55 : (ji53) < (t276.length : Int)
                                            · rw [if_pos c55] at H
                                              have c55b0 : decide ((ji53) < (t276.length : Int)) = true := decide_eq_true c55
                                              clear c55
                                              by_cases c56 : (rd t276 x14_4) ≤ (rd t276 (ji53))
                                              · rw [if_pos c56] at H
                                                have c56b0 : decide ((rd t276 x14_4) ≤ (rd t276 (ji53))) = true := decide_eq_true c56
                                                clear c56
                                                obtain rfl := Option.some.inj H
                                                obtain ⟨Ao57, co57, eo57⟩ := Kd.R_slice HO_11.out
                                                subst eo57
                                                have p285 : 0 ≤ (x14_4 : Int) := of_decide_eq_true (by first | (with_reducible assumption) | assumption)
                                                have q285 : x14_4 < (t276.length : Int) := of_decide_eq_true (by first | (with_reducible assumption) | assumption)
                                                obtain ⟨ad285, e285, hx285_0⟩ := Kd.at_int (Kd.R_reads' HO_11.out).2.2 x14_4 p285 q285
                                                cases e285
                                                replace p285 := eq_true p285
                                                replace q285 := eq_true q285
                                                have p286 : 0 ≤ (x14_4 : Int) := of_decide_eq_true (by first | (with_reducible assumption) | assumption)
                                                have q286 : x14_4 < (t276.length : Int) := of_decide_eq_true (by first | (with_reducible assumption) | assumption)
                                                obtain ⟨ad286, e286, hx286_0⟩ := Kd.at_int (Kd.R_reads' HO_11.out).2.2 x14_4 p286 q286
                                                obtain rfl : ad285 = ad286 := (by injection e286)
                                                replace p286 := eq_true p286
                                                replace q286 := eq_true q286
                                                have p287 : 0 ≤ (x14_4 : Int) := of_decide_eq_true (by first | (with_reducible assumption) | assumption)
                                                have q287 : x14_4 < (t276.length : Int) := of_decide_eq_true (by first | (with_reducible assumption) | assumption)
                                                obtain ⟨ad287, e287, hx287_0⟩ := Kd.at_int (Kd.R_reads' HO_11.out).2.2 x14_4 p287 q287
                                                obtain rfl : ad285 = ad287 := (by injection e287)
                                                replace p287 := eq_true p287
                                                replace q287 := eq_true q287
                                                obtain ⟨Ao58, co58, eo58⟩ := Kd.R_slice HO_13.out
                                                subst eo58
                                                have p288 : 0 ≤ ((rd t276 x14_4) : Int) := of_decide_eq_true (by first | (with_reducible assumption) | assumption)
                                                have q288 : (rd t276 x14_4) < (t280.length : Int) := of_decide_eq_true (by first | (with_reducible assumption) | assumption)
                                                obtain ⟨ad288, e288, hx288_0⟩ := Kd.at_bool (Kd.R_reads' HO_13.out).2.2 (rd t276 x14_4) p288 q288
                                                (try rw [← Nbq50.out] at hx288_0)
                                                cases e288
                                                replace p288 := eq_true p288
                                                replace q288 := eq_true q288
                                                have p289 : 0 ≤ (x14_4 : Int) := of_decide_eq_true (by first | (with_reducible assumption) | assumption)
                                                have q289 : x14_4 < (t276.length : Int) := of_decide_eq_true (by first | (with_reducible assumption) | assumption)
                                                obtain ⟨ad289, e289, hx289_0⟩ := Kd.at_int (Kd.R_reads' HO_11.out).2.2 x14_4 p289 q289
                                                obtain rfl : ad285 = ad289 := (by injection e289)
                                                replace p289 := eq_true p289
                                                replace q289 := eq_true q289
                                                have p290 : 0 ≤ ((ji53) : Int) := of_decide_eq_true (by first | (with_reducible assumption) | assumption)
                                                have q290 : (ji53) < (t276.length : Int) := of_decide_eq_true (by first | (with_reducible assumption) | assumption)
                                                obtain ⟨ad290, e290, hx290_0⟩ := Kd.at_int (Kd.R_reads' HO_11.out).2.2 (ji53) p290 q290
                                                obtain rfl : ad285 = ad290 := (by injection e290)
                                                replace p290 := eq_true p290
                                                replace q290 := eq_true q290
                                                go_wp2
                                                repeat (go_quiet (fail); try go_wp2)
                                                go_ret
                                                exact ⟨by first | rfl | (simp [errW_none, errW_some] <;> rfl) | (simp only [← hji53]; first | rfl | (simp [errW_none, errW_some] <;> rfl)) | (simp [*, errW_none, errW_some] <;> rfl), by repeat (first | (with_reducible first | exact HB.out | apply below_alloc | apply pw_below_drewN | apply below_drew1) | exact HB.out)⟩
                                              · rw [if_neg c56] at H
                                                have c56b0 : decide ((rd t276 x14_4) ≤ (rd t276 (ji53))) = false := decide_eq_false c56
                                                clear c56
                                                have H' := Aside0.mk H
                                                clear H
                                                obtain ⟨Ao59, co59, eo59⟩ := Kd.R_slice HO_11.out
                                                subst eo59
                                                have p285 : 0 ≤ (x14_4 : Int) := of_decide_eq_true (by first | (with_reducible assumption) | assumption)
                                                have q285 : x14_4 < (t276.length : Int) := of_decide_eq_true (by first | (with_reducible assumption) | assumption)
                                                obtain ⟨ad285, e285, hx285_0⟩ := Kd.at_int (Kd.R_reads' HO_11.out).2.2 x14_4 p285 q285
                                                cases e285
                                                replace p285 := eq_true p285
                                                replace q285 := eq_true q285
                                                have p286 : 0 ≤ (x14_4 : Int) := of_decide_eq_true (by first | (with_reducible assumption) | assumption)
                                                have q286 : x14_4 < (t276.length : Int) := of_decide_eq_true (by first | (with_reducible assumption) | assumption)
                                                obtain ⟨ad286, e286, hx286_0⟩ := Kd.at_int (Kd.R_reads' HO_11.out).2.2 x14_4 p286 q286
                                                obtain rfl : ad285 = ad286 := (by injection e286)
                                                replace p286 := eq_true p286
                                                replace q286 := eq_true q286
                                                have p287 : 0 ≤ (x14_4 : Int) := of_decide_eq_true (by first | (with_reducible assumption) | assumption)
                                                have q287 : x14_4 < (t276.length : Int) := of_decide_eq_true (by first | (with_reducible assumption) | assumption)
                                                obtain ⟨ad287, e287, hx287_0⟩ := Kd.at_int (Kd.R_reads' HO_11.out).2.2 x14_4 p287 q287
                                                obtain rfl : ad285 = ad287 := (by injection e287)
                                                replace p287 := eq_true p287
                                                replace q287 := eq_true q287
                                                obtain ⟨Ao60, co60, eo60⟩ := Kd.R_slice HO_13.out
                                                subst eo60
                                                have p288 : 0 ≤ ((rd t276 x14_4) : Int) := of_decide_eq_true (by first | (with_reducible assumption) | assumption)
                                                have q288 : (rd t276 x14_4) < (t280.length : Int) := of_decide_eq_true (by first | (with_reducible assumption) | assumption)
                                                obtain ⟨ad288, e288, hx288_0⟩ := Kd.at_bool (Kd.R_reads' HO_13.out).2.2 (rd t276 x14_4) p288 q288
                                                (try rw [← Nbq50.out] at hx288_0)
                                                cases e288
                                                replace p288 := eq_true p288
                                                replace q288 := eq_true q288
                                                have p289 : 0 ≤ (x14_4 : Int) := of_decide_eq_true (by first | (with_reducible assumption) | assumption)
                                                have q289 : x14_4 < (t276.length : Int) := of_decide_eq_true (by first | (with_reducible assumption) | assumption)
                                                obtain ⟨ad289, e289, hx289_0⟩ := Kd.at_int (Kd.R_reads' HO_11.out).2.2 x14_4 p289 q289
                                                obtain rfl : ad285 = ad289 := (by injection e289)
                                                replace p289 := eq_true p289
                                                replace q289 := eq_true q289
                                                have p290 : 0 ≤ ((ji53) : Int) := of_decide_eq_true (by first | (with_reducible assumption) | assumption)
                                                have q290 : (ji53) < (t276.length : Int) := of_decide_eq_true (by first | (with_reducible assumption) | assumption)
                                                obtain ⟨ad290, e290, hx290_0⟩ := Kd.at_int (Kd.R_reads' HO_11.out).2.2 (ji53) p290 q290
                                                obtain rfl : ad285 = ad290 := (by injection e290)
                                                replace p290 := eq_true p290
                                                replace q290 := eq_true q290
                                                go_wp2
                                                repeat (go_quiet (fail); try go_wp2)
                                                go_roundg k4
                                                case measure => have := HJ6.out; have := HJ13.out; have := HJ26.out; have := HK4.out; omega
                                                case rel => exact ⟨(wrap64 (x14_4 + 1)), (by first | rfl | (simp; done) | (simp [*]; done)), H', ⟨by have := HJ6.out; have := HJ13.out; have := HJ26.out; have := HK4.out; omega⟩, ⟨by (with_reducible repeat (first | apply Kd.R_alloc | apply Kd.R_drewN | apply Kd.R_drew)); exact HO_11.out⟩, ⟨by (with_reducible repeat (first | apply Kd.R_alloc | apply Kd.R_drewN | apply Kd.R_drew)); exact HO_13.out⟩, ⟨by repeat (first | (with_reducible first | exact HB.out | apply below_alloc | apply pw_below_drewN | apply below_drew1) | exact HB.out)⟩⟩
                                            · rw [if_neg c55] at H
                                              exact absurd H (by simp)
                                          · rw [if_neg c54] at H
                                            exact absurd H (by simp)
                                        · rw [if_neg c52] at H
                                          have c52b0 : decide (0 < x14_4) = false := decide_eq_false c52
                                          clear c52
                                          have H' := Aside0.mk H
                                          clear H
                                          obtain ⟨Ao61, co61, eo61⟩ := Kd.R_slice HO_11.out
                                          subst eo61
                                          have p285 : 0 ≤ (x14_4 : Int) := of_decide_eq_true (by first | (with_reducible assumption) | assumption)
                                          have q285 : x14_4 < (t276.length : Int) := of_decide_eq_true (by first | (with_reducible assumption) | assumption)
                                          obtain ⟨ad285, e285, hx285_0⟩ := Kd.at_int (Kd.R_reads' HO_11.out).2.2 x14_4 p285 q285
                                          cases e285
                                          replace p285 := eq_true p285
                                          replace q285 := eq_true q285
                                          have p286 : 0 ≤ (x14_4 : Int) := of_decide_eq_true (by first | (with_reducible assumption) | assumption)
                                          have q286 : x14_4 < (t276.length : Int) := of_decide_eq_true (by first | (with_reducible assumption) | assumption)
                                          obtain ⟨ad286, e286, hx286_0⟩ := Kd.at_int (Kd.R_reads' HO_11.out).2.2 x14_4 p286 q286
                                          obtain rfl : ad285 = ad286 := (by injection e286)
                                          replace p286 := eq_true p286
                                          replace q286 := eq_true q286
                                          have p287 : 0 ≤ (x14_4 : Int) := of_decide_eq_true (by first | (with_reducible assumption) | assumption)
                                          have q287 : x14_4 < (t276.length : Int) := of_decide_eq_true (by first | (with_reducible assumption) | assumption)
                                          obtain ⟨ad287, e287, hx287_0⟩ := Kd.at_int (Kd.R_reads' HO_11.out).2.2 x14_4 p287 q287
                                          obtain rfl : ad285 = ad287 := (by injection e287)
                                          replace p287 := eq_true p287
                                          replace q287 := eq_true q287
                                          obtain ⟨Ao62, co62, eo62⟩ := Kd.R_slice HO_13.out
                                          subst eo62
                                          have p288 : 0 ≤ ((rd t276 x14_4) : Int) := of_decide_eq_true (by first | (with_reducible assumption) | assumption)
                                          have q288 : (rd t276 x14_4) < (t280.length : Int) := of_decide_eq_true (by first | (with_reducible assumption) | assumption)
                                          obtain ⟨ad288, e288, hx288_0⟩ := Kd.at_bool (Kd.R_reads' HO_13.out).2.2 (rd t276 x14_4) p288 q288
                                          (try rw [← Nbq50.out] at hx288_0)
                                          cases e288
                                          replace p288 := eq_true p288
                                          replace q288 := eq_true q288
                                          go_wp2
                                          repeat (go_quiet (fail); try go_wp2)
                                          go_roundg k4
                                          case measure => have := HJ6.out; have := HJ13.out; have := HJ26.out; have := HK4.out; omega
                                          case rel => exact ⟨(wrap64 (x14_4 + 1)), (by first | rfl | (simp; done) | (simp [*]; done)), H', ⟨by have := HJ6.out; have := HJ13.out; have := HJ26.out; have := HK4.out; omega⟩, ⟨by (with_reducible repeat (first | apply Kd.R_alloc | apply Kd.R_drewN | apply Kd.R_drew)); exact HO_11.out⟩, ⟨by (with_reducible repeat (first | apply Kd.R_alloc | apply Kd.R_drewN | apply Kd.R_drew)); exact HO_13.out⟩, ⟨by repeat (first | (with_reducible first | exact HB.out | apply below_alloc | apply pw_below_drewN | apply below_drew1) | exact HB.out)⟩⟩
                                      · replace c51 := Bool.eq_false_iff.mpr c51
                                        subst c51
                                        have H1 : (some false) = some r := by rw [if_neg (show ¬ (false = true) by decide)] at H; exact H
                                        clear H
                                        have H := H1
                                        clear H1
                                        obtain rfl := Option.some.inj H
                                        obtain ⟨Ao63, co63, eo63⟩ := Kd.R_slice HO_11.out
                                        subst eo63
                                        have p285 : 0 ≤ (x14_4 : Int) := of_decide_eq_true (by first | (with_reducible assumption) | assumption)
                                        have q285 : x14_4 < (t276.length : Int) := of_decide_eq_true (by first | (with_reducible assumption) | assumption)
                                        obtain ⟨ad285, e285, hx285_0⟩ := Kd.at_int (Kd.R_reads' HO_11.out).2.2 x14_4 p285 q285
                                        cases e285
                                        replace p285 := eq_true p285
                                        replace q285 := eq_true q285
                                        have p286 : 0 ≤ (x14_4 : Int) := of_decide_eq_true (by first | (with_reducible assumption) | assumption)
                                        have q286 : x14_4 < (t276.length : Int) := of_decide_eq_true (by first | (with_reducible assumption) | assumption)
                                        obtain ⟨ad286, e286, hx286_0⟩ := Kd.at_int (Kd.R_reads' HO_11.out).2.2 x14_4 p286 q286
                                        obtain rfl : ad285 = ad286 := (by injection e286)
                                        replace p286 := eq_true p286
                                        replace q286 := eq_true q286
                                        have p287 : 0 ≤ (x14_4 : Int) := of_decide_eq_true (by first | (with_reducible assumption) | assumption)
                                        have q287 : x14_4 < (t276.length : Int) := of_decide_eq_true (by first | (with_reducible assumption) | assumption)
                                        obtain ⟨ad287, e287, hx287_0⟩ := Kd.at_int (Kd.R_reads' HO_11.out).2.2 x14_4 p287 q287
                                        obtain rfl : ad285 = ad287 := (by injection e287)
                                        replace p287 := eq_true p287
                                        replace q287 := eq_true q287
                                        obtain ⟨Ao64, co64, eo64⟩ := Kd.R_slice HO_13.out
                                        subst eo64
                                        have p288 : 0 ≤ ((rd t276 x14_4) : Int) := of_decide_eq_true (by first | (with_reducible assumption) | assumption)
                                        have q288 : (rd t276 x14_4) < (t280.length : Int) := of_decide_eq_true (by first | (with_reducible assumption) | assumption)
                                        obtain ⟨ad288, e288, hx288_0⟩ := Kd.at_bool (Kd.R_reads' HO_13.out).2.2 (rd t276 x14_4) p288 q288
                                        (try rw [← Nbq50.out] at hx288_0)
                                        cases e288
                                        replace p288 := eq_true p288
                                        replace q288 := eq_true q288
                                        go_wp2
                                        repeat (go_quiet (fail); try go_wp2)
                                        go_ret
                                        exact ⟨by first | rfl | (simp [errW_none, errW_some] <;> rfl) | (simp [*, errW_none, errW_some] <;> rfl), by repeat (first | (with_reducible first | exact HB.out | apply below_alloc | apply pw_below_drewN | apply below_drew1) | exact HB.out)⟩
                                    · rw [if_neg c49] at H
                                      exact absurd H (by simp)
                                  · rw [if_neg c48] at H
                                    exact absurd H (by simp)
                            · rw [if_neg c43] at H
                              exact absurd H (by simp)
                          · rw [if_neg c42] at H
                            have c42b0 : decide (x14_4 < (t276.length : Int)) = false := decide_eq_false c42
                            clear c42
                            have H' := Aside0.mk H
                            clear H
                            obtain ⟨Ao65, co65, eo65⟩ := Kd.R_slice HO_11.out
                            subst eo65
                            go_wp2
                            repeat (go_quiet (fail); try go_wp2)
                            go_loopg [15, 16] k4 (fun kq v15 v16 w' => ∃ (x15_5 : Int) (x16_5 : Int), v15 = .int .i64 x15_5 ∧ v16 = .int .i64 x16_5 ∧ Aside0 (stepladderlaw21_VelvetSmooth.l1 kq l0 a1 a3 t276 t280 x15_5 x16_5 = some r) ∧ Aside0 (kq ≤ k4) ∧ Aside0 (Kd.R (Kd.int .i64) 3 w' w.heap.size (fun _ => True) (.slice Ao65 t276.length co65) t276) ∧ Aside0 (Kd.R Kd.bool 4 w' w.heap.size (fun _ => True) v281 t280) ∧ Aside0 (Below w.heap.size w w'))
                            case atStart => exact ⟨(0), (wrap64 ((wrap64 ((l0.length : Int) - a2)) - 1)), (by first | rfl | (simp; done) | (simp [*]; done)), (by first | rfl | (simp; done) | (simp [*]; done)), H', ⟨Nat.le_refl _⟩, ⟨by (with_reducible repeat (first | apply Kd.R_alloc | apply Kd.R_drewN | apply Kd.R_drew)); exact HO_11.out⟩, ⟨by (with_reducible repeat (first | apply Kd.R_alloc | apply Kd.R_drewN | apply Kd.R_drew)); exact HO_13.out⟩, ⟨by repeat (first | (with_reducible first | exact HB.out | apply below_alloc | apply pw_below_drewN | apply below_drew1) | exact HB.out)⟩⟩
                            case round => as_aux_lemma =>
                              clear H'
                              try clear c1
                              try clear c2
                              try clear p2
                              try clear q2
                              try clear hx2
                              try clear qi2
                              try clear c3
                              try clear c4
                              try clear c5
                              try clear q5
                              try clear p6
                              try clear c9
                              try clear c10
                              try clear c11
                              try clear c18
                              try clear c19
                              try clear c19b0
                              try clear c20
                              try clear c20b0
                              try clear c25
                              try clear c26
                              try clear c28
                              try clear c28b0
                              try clear c28b1
                              try clear c28b2
                              try clear p28
                              try clear q28
                              try clear hx28
                              try clear qi28
                              try clear p29
                              try clear q29
                              try clear hx29
                              try clear c30
                              try clear c30b0
                              try clear c30b1
                              try clear c31
                              try clear c31b0
                              try clear c31b1
                              try clear c32
                              try clear c32b0
                              try clear c32b1
                              try clear c32b2
                              try clear c33
                              try clear c33b0
                              try clear c41
                              try clear c42
                              try clear c42b0
                              try clear c43
                              try clear c43b0
                              try clear c44
                              try clear c44b0
                              try clear c46
                              try clear c46b0
                              try clear c48
                              try clear c48b0
                              try clear c49
                              try clear c49b0
                              try clear q50
                              try clear c51
                              try clear c52
                              try clear c52b0
                              try clear c54
                              try clear c54b0
                              try clear c55
                              try clear c55b0
                              try clear c56
                              try clear c56b0
                              try clear p64
                              try clear hx284_0
                              try clear hx285_0
                              try clear hx286_0
                              try clear hx287_0
                              try clear hx288_0
                              try clear hx289_0
                              try clear hx290_0
                              try clear p2
                              try clear p28
                              try clear p284
                              try clear p285
                              try clear p286
                              try clear p287
                              try clear p288
                              try clear p289
                              try clear p290
                              try clear q2
                              try clear q28
                              try clear q284
                              try clear q285
                              try clear q286
                              try clear q287
                              try clear q288
                              try clear q289
                              try clear q290
                              obtain ⟨x15_5, x16_5, rfl, rfl, HA, HK5, HO_11, HO_13, HB⟩ := hrel
                              cases gk with
                              | zero => exact absurd HA.out (by simp [stepladderlaw21_VelvetSmooth.l1])
                              | succ k5 =>
                                have H := HA.out
                                clear HA
                                simp only [stepladderlaw21_VelvetSmooth.l1] at H
                                have HC66 := Aside0.mk H
                                clear H
                                go_upto_region 20 with (fail)
                                repeat (go_quiet (fail); go_upto_region 20 with (fail))
                                go_cut [150] (fun v150 wc => ∃ (kq : Nat) (x150_65 : Bool), v150 = .bool x150_65 ∧ Aside0 (stepladderlaw21_VelvetSmooth.j5 kq l0 a1 a3 t276 t280 x15_5 x16_5 x150_65 = some r) ∧ Aside0 (kq ≤ k5) ∧ Aside0 (Kd.R (Kd.int .i64) 3 wc w.heap.size (fun _ => True) (.slice Ao65 t276.length co65) t276) ∧ Aside0 (Kd.R Kd.bool 4 wc w.heap.size (fun _ => True) v281 t280) ∧ Aside0 (Below w.heap.size w wc))
                                case first => as_aux_lemma =>
                                  have H := HC66.out
                                  clear HC66
                                  by_cases c67 : x16_5 ≥ 0
                                  · rw [if_pos c67] at H
                                    have c67b0 : decide (0 ≤ x16_5) = true := decide_eq_true c67
                                    clear c67
                                    (first | rw [c67b0] | (simp only [i64_w, i32_w]; rw [c67b0]) | skip)
                                    have H' := Aside0.mk H
                                    clear H
                                    go_wp2
                                    repeat (go_quiet (fail); try go_wp2)
                                    go_meet
                                    case rel => exact ⟨_, (decide (x15_5 < a1)), (by first | rfl | (simp; done) | (simp [*]; done)), H', ⟨by have := HJ6.out; have := HJ13.out; have := HJ26.out; have := HK4.out; have := HK5.out; first | omega | exact Nat.le_refl _⟩, ⟨by (with_reducible repeat (first | apply Kd.R_alloc | apply Kd.R_drewN | apply Kd.R_drew)); exact HO_11.out⟩, ⟨by (with_reducible repeat (first | apply Kd.R_alloc | apply Kd.R_drewN | apply Kd.R_drew)); exact HO_13.out⟩, ⟨by repeat (first | (with_reducible first | exact HB.out | apply below_alloc | apply pw_below_drewN | apply below_drew1) | exact HB.out)⟩⟩
                                  · rw [if_neg c67] at H
                                    have c67b0 : decide (0 ≤ x16_5) = false := decide_eq_false c67
                                    clear c67
                                    (first | rw [c67b0] | (simp only [i64_w, i32_w]; rw [c67b0]) | skip)
                                    have H' := Aside0.mk H
                                    clear H
                                    go_wp2
                                    repeat (go_quiet (fail); try go_wp2)
                                    go_meet
                                    case rel => exact ⟨_, (false), (by first | rfl | (simp; done) | (simp [*]; done)), H', ⟨by have := HJ6.out; have := HJ13.out; have := HJ26.out; have := HK4.out; have := HK5.out; first | omega | exact Nat.le_refl _⟩, ⟨by (with_reducible repeat (first | apply Kd.R_alloc | apply Kd.R_drewN | apply Kd.R_drew)); exact HO_11.out⟩, ⟨by (with_reducible repeat (first | apply Kd.R_alloc | apply Kd.R_drewN | apply Kd.R_drew)); exact HO_13.out⟩, ⟨by repeat (first | (with_reducible first | exact HB.out | apply below_alloc | apply pw_below_drewN | apply below_drew1) | exact HB.out)⟩⟩
                                case rest => as_aux_lemma =>
                                  clear HC66
                                  try clear c1
                                  try clear c2
                                  try clear p2
                                  try clear q2
                                  try clear hx2
                                  try clear qi2
                                  try clear c3
                                  try clear c4
                                  try clear c5
                                  try clear q5
                                  try clear c6
                                  try clear p6
                                  try clear c9
                                  try clear c10
                                  try clear c11
                                  try clear c18
                                  try clear c19
                                  try clear c19b0
                                  try clear c20
                                  try clear c20b0
                                  try clear c25
                                  try clear c26
                                  try clear c28
                                  try clear c28b0
                                  try clear c28b1
                                  try clear c28b2
                                  try clear p28
                                  try clear q28
                                  try clear hx28
                                  try clear qi28
                                  try clear p29
                                  try clear q29
                                  try clear hx29
                                  try clear c30
                                  try clear c30b0
                                  try clear c30b1
                                  try clear c31
                                  try clear c31b0
                                  try clear c31b1
                                  try clear c32
                                  try clear c32b0
                                  try clear c32b1
                                  try clear c32b2
                                  try clear c33
                                  try clear c33b0
                                  try clear c41
                                  try clear c42
                                  try clear c42b0
                                  try clear c43
                                  try clear c43b0
                                  try clear c44
                                  try clear c44b0
                                  try clear c46
                                  try clear c46b0
                                  try clear c48
                                  try clear c48b0
                                  try clear c49
                                  try clear c49b0
                                  try clear q50
                                  try clear c51
                                  try clear c52
                                  try clear c52b0
                                  try clear c54
                                  try clear c54b0
                                  try clear c55
                                  try clear c55b0
                                  try clear c56
                                  try clear c56b0
                                  try clear p64
                                  try clear c67
                                  try clear c67b0
                                  try clear hx284_0
                                  try clear hx285_0
                                  try clear hx286_0
                                  try clear hx287_0
                                  try clear hx288_0
                                  try clear hx289_0
                                  try clear hx290_0
                                  try clear p2
                                  try clear p28
                                  try clear p284
                                  try clear p285
                                  try clear p286
                                  try clear p287
                                  try clear p288
                                  try clear p289
                                  try clear p29
                                  try clear p290
                                  try clear p6
                                  try clear p64
                                  try clear q2
                                  try clear q28
                                  try clear q284
                                  try clear q285
                                  try clear q286
                                  try clear q287
                                  try clear q288
                                  try clear q289
                                  try clear q29
                                  try clear q290
                                  try clear q5
                                  try clear q50
                                  obtain ⟨kq, x150_65, rfl, HA, HJ65, HO_11, HO_13, HB⟩ := hcut
                                  cases kq with
                                  | zero => exact absurd HA.out (by simp [stepladderlaw21_VelvetSmooth.j5])
                                  | succ kj65 =>
                                    have H := HA.out
                                    clear HA
                                    simp only [stepladderlaw21_VelvetSmooth.j5] at H
                                    by_cases c68 : x150_65 = true
                                    · subst c68
                                      have H1 : (if 0 ≤ x16_5 then (if x16_5 < (t280.length : Int) then (if rdOf false t280 x16_5 = true then (if x16_5 < (l0.length : Int) then (stepladderlaw21_VelvetSmooth.j6 kj65 l0 a1 a3 t276 t280 x15_5 x16_5 (decide (((rd_T36 l0 x16_5).f1) < a3))) else (none)) else (stepladderlaw21_VelvetSmooth.j6 kj65 l0 a1 a3 t276 t280 x15_5 x16_5 true)) else (none)) else (none)) = some r := by rw [if_pos rfl] at H; exact H
                                      clear H
                                      have H := H1
                                      clear H1
                                      have HC69 := Aside0.mk H
                                      clear H
                                      go_upto_region 22 with (fail)
                                      repeat (go_quiet (fail); go_upto_region 22 with (fail))
                                      go_cut [166] (fun v166 wc => ∃ (kq : Nat) (x166_68 : Bool), v166 = .bool x166_68 ∧ Aside0 (stepladderlaw21_VelvetSmooth.j6 kq l0 a1 a3 t276 t280 x15_5 x16_5 x166_68 = some r) ∧ Aside0 (kq ≤ kj65) ∧ Aside0 (Kd.R (Kd.int .i64) 3 wc w.heap.size (fun _ => True) (.slice Ao65 t276.length co65) t276) ∧ Aside0 (Kd.R Kd.bool 4 wc w.heap.size (fun _ => True) v281 t280) ∧ Aside0 (Below w.heap.size w wc))
                                      case first => as_aux_lemma =>
                                        have H := HC69.out
                                        clear HC69
                                        by_cases c70 : 0 ≤ x16_5
                                        · rw [if_pos c70] at H
                                          have c70b0 : decide (0 ≤ x16_5) = true := decide_eq_true c70
                                          clear c70
                                          (first | rw [c70b0] | (simp only [i64_w, i32_w]; rw [c70b0]) | skip)
                                          by_cases c71 : x16_5 < (t280.length : Int)
                                          · rw [if_pos c71] at H
                                            have c71b0 : decide (x16_5 < (t280.length : Int)) = true := decide_eq_true c71
                                            clear c71
                                            obtain ⟨bq72, hbq72⟩ : ∃ b_ : Bool, b_ = (rdOf false t280 x16_5) := ⟨_, rfl⟩
                                            replace H : (if bq72 = true then (if x16_5 < (l0.length : Int) then (stepladderlaw21_VelvetSmooth.j6 kj65 l0 a1 a3 t276 t280 x15_5 x16_5 (decide (((rd_T36 l0 x16_5).f1) < a3))) else (none)) else (stepladderlaw21_VelvetSmooth.j6 kj65 l0 a1 a3 t276 t280 x15_5 x16_5 true)) = some r := by rw [← hbq72] at H; exact H
                                            have Nbq72 := Aside0.mk hbq72
                                            clear hbq72
                                            by_cases c73 : bq72 = true
                                            · subst c73
                                              have H1 : (if x16_5 < (l0.length : Int) then (stepladderlaw21_VelvetSmooth.j6 kj65 l0 a1 a3 t276 t280 x15_5 x16_5 (decide (((rd_T36 l0 x16_5).f1) < a3))) else (none)) = some r := by rw [if_pos rfl] at H; exact H
                                              clear H
                                              have H := H1
                                              clear H1
                                              by_cases c74 : x16_5 < (l0.length : Int)
                                              · rw [if_pos c74] at H
                                                have c74b0 : decide (x16_5 < (l0.length : Int)) = true := decide_eq_true c74
                                                clear c74
                                                have H' := Aside0.mk H
                                                clear H
                                                obtain ⟨Ao75, co75, eo75⟩ := Kd.R_slice HO_13.out
                                                subst eo75
                                                have p291 : 0 ≤ (x16_5 : Int) := of_decide_eq_true (by first | (with_reducible assumption) | assumption)
                                                have q291 : x16_5 < (t280.length : Int) := of_decide_eq_true (by first | (with_reducible assumption) | assumption)
                                                obtain ⟨ad291, e291, hx291_0⟩ := Kd.at_bool (Kd.R_reads' HO_13.out).2.2 x16_5 p291 q291
                                                (try rw [← Nbq72.out] at hx291_0)
                                                cases e291
                                                replace p291 := eq_true p291
                                                replace q291 := eq_true q291
                                                have p292 : 0 ≤ (x16_5 : Int) := of_decide_eq_true (by first | (with_reducible assumption) | assumption)
                                                have q292 : x16_5 < (l0.length : Int) := of_decide_eq_true (by first | (with_reducible assumption) | assumption)
                                                obtain ⟨ad292, A292_2, c292_2, e292, hx292_0, hx292_1, hx292_2, hl292_2, hi292_2⟩ := at_T36 HR0.out x16_5 p292 q292
                                                (try rw [← Nbq72.out] at hx292_0)
                                                cases e292
                                                replace hx292_0 := (HB.out.cell (World.block_lt_of_cell? w _ hx292_0)).trans hx292_0
                                                replace hx292_1 := (HB.out.cell (World.block_lt_of_cell? w _ hx292_1)).trans hx292_1
                                                replace hx292_2 := (HB.out.cell (World.block_lt_of_cell? w _ hx292_2)).trans hx292_2
                                                have HR292_2 := Aside0.mk hi292_2
                                                have HC292_2 := Aside0.mk hl292_2
                                                clear hi292_2 hl292_2
                                                replace p292 := eq_true p292
                                                replace q292 := eq_true q292
                                                go_wp2
                                                repeat (go_quiet (fail); try go_wp2)
                                                go_meet
                                                case rel => exact ⟨_, (decide (((rd_T36 l0 x16_5).f1) < a3)), (by first | rfl | (simp; done) | (simp [*]; done)), H', ⟨by have := HJ6.out; have := HJ13.out; have := HJ26.out; have := HK4.out; have := HK5.out; have := HJ65.out; first | omega | exact Nat.le_refl _⟩, ⟨by (with_reducible repeat (first | apply Kd.R_alloc | apply Kd.R_drewN | apply Kd.R_drew)); exact HO_11.out⟩, ⟨by (with_reducible repeat (first | apply Kd.R_alloc | apply Kd.R_drewN | apply Kd.R_drew)); exact HO_13.out⟩, ⟨by repeat (first | (with_reducible first | exact HB.out | apply below_alloc | apply pw_below_drewN | apply below_drew1) | exact HB.out)⟩⟩
                                              · rw [if_neg c74] at H
                                                exact absurd H (by simp)
                                            · replace c73 := Bool.eq_false_iff.mpr c73
                                              subst c73
                                              have H1 : (stepladderlaw21_VelvetSmooth.j6 kj65 l0 a1 a3 t276 t280 x15_5 x16_5 true) = some r := by rw [if_neg (show ¬ (false = true) by decide)] at H; exact H
                                              clear H
                                              have H := H1
                                              clear H1
                                              have H' := Aside0.mk H
                                              clear H
                                              obtain ⟨Ao76, co76, eo76⟩ := Kd.R_slice HO_13.out
                                              subst eo76
                                              have p291 : 0 ≤ (x16_5 : Int) := of_decide_eq_true (by first | (with_reducible assumption) | assumption)
                                              have q291 : x16_5 < (t280.length : Int) := of_decide_eq_true (by first | (with_reducible assumption) | assumption)
                                              obtain ⟨ad291, e291, hx291_0⟩ := Kd.at_bool (Kd.R_reads' HO_13.out).2.2 x16_5 p291 q291
                                              (try rw [← Nbq72.out] at hx291_0)
                                              cases e291
                                              replace p291 := eq_true p291
                                              replace q291 := eq_true q291
                                              go_wp2
                                              repeat (go_quiet (fail); try go_wp2)
                                              go_meet
                                              case rel => exact ⟨_, (true), (by first | rfl | (simp; done) | (simp [*]; done)), H', ⟨by have := HJ6.out; have := HJ13.out; have := HJ26.out; have := HK4.out; have := HK5.out; have := HJ65.out; first | omega | exact Nat.le_refl _⟩, ⟨by (with_reducible repeat (first | apply Kd.R_alloc | apply Kd.R_drewN | apply Kd.R_drew)); exact HO_11.out⟩, ⟨by (with_reducible repeat (first | apply Kd.R_alloc | apply Kd.R_drewN | apply Kd.R_drew)); exact HO_13.out⟩, ⟨by repeat (first | (with_reducible first | exact HB.out | apply below_alloc | apply pw_below_drewN | apply below_drew1) | exact HB.out)⟩⟩
                                          · rw [if_neg c71] at H
                                            exact absurd H (by simp)
                                        · rw [if_neg c70] at H
                                          exact absurd H (by simp)
                                      case rest => as_aux_lemma =>
                                        clear HC69
                                        try clear c1
                                        try clear c2
                                        try clear p2
                                        try clear q2
                                        try clear hx2
                                        try clear qi2
                                        try clear c3
                                        try clear c4
                                        try clear c5
                                        try clear q5
                                        try clear c6
                                        try clear p6
                                        try clear c7
                                        try clear q7
                                        try clear c9
                                        try clear c10
                                        try clear c11
                                        try clear c18
                                        try clear c19
                                        try clear c19b0
                                        try clear c20
                                        try clear c20b0
                                        try clear c25
                                        try clear c26
                                        try clear c28
                                        try clear c28b0
                                        try clear c28b1
                                        try clear c28b2
                                        try clear p28
                                        try clear q28
                                        try clear hx28
                                        try clear qi28
                                        try clear c29
                                        try clear p29
                                        try clear q29
                                        try clear hx29
                                        try clear c30
                                        try clear c30b0
                                        try clear c30b1
                                        try clear c31
                                        try clear c31b0
                                        try clear c31b1
                                        try clear c32
                                        try clear c32b0
                                        try clear c32b1
                                        try clear c32b2
                                        try clear c33
                                        try clear c33b0
                                        try clear c41
                                        try clear c42
                                        try clear c42b0
                                        try clear c43
                                        try clear c43b0
                                        try clear c44
                                        try clear c44b0
                                        try clear c46
                                        try clear c46b0
                                        try clear c48
                                        try clear c48b0
                                        try clear c49
                                        try clear c49b0
                                        try clear q50
                                        try clear c51
                                        try clear c52
                                        try clear c52b0
                                        try clear c54
                                        try clear c54b0
                                        try clear c55
                                        try clear c55b0
                                        try clear c56
                                        try clear c56b0
                                        try clear p64
                                        try clear c67
                                        try clear c67b0
                                        try clear c68
                                        try clear c70
                                        try clear c70b0
                                        try clear c71
                                        try clear c71b0
                                        try clear q72
                                        try clear c73
                                        try clear c74
                                        try clear c74b0
                                        try clear hx284_0
                                        try clear hx285_0
                                        try clear hx286_0
                                        try clear hx287_0
                                        try clear hx288_0
                                        try clear hx289_0
                                        try clear hx290_0
                                        try clear hx291_0
                                        try clear hx292_0
                                        try clear hx292_1
                                        try clear hx292_2
                                        try clear p2
                                        try clear p28
                                        try clear p284
                                        try clear p285
                                        try clear p286
                                        try clear p287
                                        try clear p288
                                        try clear p289
                                        try clear p29
                                        try clear p290
                                        try clear p291
                                        try clear p292
                                        try clear p6
                                        try clear p64
                                        try clear q2
                                        try clear q28
                                        try clear q284
                                        try clear q285
                                        try clear q286
                                        try clear q287
                                        try clear q288
                                        try clear q289
                                        try clear q29
                                        try clear q290
                                        try clear q291
                                        try clear q292
                                        try clear q5
                                        try clear q50
                                        obtain ⟨kq, x166_68, rfl, HA, HJ68, HO_11, HO_13, HB⟩ := hcut
                                        cases kq with
                                        | zero => exact absurd HA.out (by simp [stepladderlaw21_VelvetSmooth.j6])
                                        | succ kj68 =>
                                          have H := HA.out
                                          clear HA
                                          simp only [stepladderlaw21_VelvetSmooth.j6] at H
                                          by_cases c77 : x166_68 = true
                                          · subst c77
                                            have H1 : (stepladderlaw21_VelvetSmooth.l1 kj68 l0 a1 a3 t276 t280 x15_5 (wrap64 (x16_5 - 1))) = some r := by rw [if_pos rfl] at H; exact H
                                            clear H
                                            have H := H1
                                            clear H1
                                            have H' := Aside0.mk H
                                            clear H
                                            go_wp2
                                            repeat (go_quiet (fail); try go_wp2)
                                            go_roundg kj68
                                            case measure => have := HJ6.out; have := HJ13.out; have := HJ26.out; have := HK4.out; have := HK5.out; have := HJ65.out; have := HJ68.out; omega
                                            case rel => exact ⟨(x15_5), (wrap64 (x16_5 - 1)), (by first | rfl | (simp; done) | (simp [*]; done)), (by first | rfl | (simp; done) | (simp [*]; done)), H', ⟨by have := HJ6.out; have := HJ13.out; have := HJ26.out; have := HK4.out; have := HK5.out; have := HJ65.out; have := HJ68.out; omega⟩, ⟨by (with_reducible repeat (first | apply Kd.R_alloc | apply Kd.R_drewN | apply Kd.R_drew)); exact HO_11.out⟩, ⟨by (with_reducible repeat (first | apply Kd.R_alloc | apply Kd.R_drewN | apply Kd.R_drew)); exact HO_13.out⟩, ⟨by repeat (first | (with_reducible first | exact HB.out | apply below_alloc | apply pw_below_drewN | apply below_drew1) | exact HB.out)⟩⟩
                                          · replace c77 := Bool.eq_false_iff.mpr c77
                                            subst c77
                                            have H1 : (stepladderlaw21_VelvetSmooth.l2 kj68 l0 a1 a3 t276 t280 (wrap64 (x15_5 + 1)) x16_5 false 0) = some r := by rw [if_neg (show ¬ (false = true) by decide)] at H; exact H
                                            clear H
                                            have H := H1
                                            clear H1
                                            have H' := Aside0.mk H
                                            clear H
                                            go_wp2
                                            repeat (go_quiet (fail); try go_wp2)
                                            go_loopg [17, 18] kj68 (fun kq v17 v18 w' => ∃ (x17_8 : Bool) (x18_8 : Int), v17 = .bool x17_8 ∧ v18 = .int .i64 x18_8 ∧ Aside0 (stepladderlaw21_VelvetSmooth.l2 kq l0 a1 a3 t276 t280 (wrap64 (x15_5 + 1)) x16_5 x17_8 x18_8 = some r) ∧ Aside0 (kq ≤ kj68) ∧ Aside0 (Kd.R (Kd.int .i64) 3 w' w.heap.size (fun _ => True) (.slice Ao65 t276.length co65) t276) ∧ Aside0 (Kd.R Kd.bool 4 w' w.heap.size (fun _ => True) v281 t280) ∧ Aside0 (Below w.heap.size w w'))
                                            case atStart => exact ⟨(false), (0), (by first | rfl | (simp; done) | (simp [*]; done)), (by first | rfl | (simp; done) | (simp [*]; done)), H', ⟨Nat.le_refl _⟩, ⟨by (with_reducible repeat (first | apply Kd.R_alloc | apply Kd.R_drewN | apply Kd.R_drew)); exact HO_11.out⟩, ⟨by (with_reducible repeat (first | apply Kd.R_alloc | apply Kd.R_drewN | apply Kd.R_drew)); exact HO_13.out⟩, ⟨by repeat (first | (with_reducible first | exact HB.out | apply below_alloc | apply pw_below_drewN | apply below_drew1) | exact HB.out)⟩⟩
                                            case round => as_aux_lemma =>
                                              clear H'
                                              try clear c1
                                              try clear c2
                                              try clear p2
                                              try clear q2
                                              try clear hx2
                                              try clear qi2
                                              try clear c3
                                              try clear c4
                                              try clear c5
                                              try clear q5
                                              try clear c6
                                              try clear p6
                                              try clear c7
                                              try clear q7
                                              try clear c9
                                              try clear c10
                                              try clear c11
                                              try clear c18
                                              try clear c19
                                              try clear c19b0
                                              try clear c20
                                              try clear c20b0
                                              try clear c25
                                              try clear c26
                                              try clear c28
                                              try clear c28b0
                                              try clear c28b1
                                              try clear c28b2
                                              try clear p28
                                              try clear q28
                                              try clear hx28
                                              try clear qi28
                                              try clear c29
                                              try clear p29
                                              try clear q29
                                              try clear hx29
                                              try clear c30
                                              try clear c30b0
                                              try clear c30b1
                                              try clear c31
                                              try clear c31b0
                                              try clear c31b1
                                              try clear c32
                                              try clear c32b0
                                              try clear c32b1
                                              try clear c32b2
                                              try clear c33
                                              try clear c33b0
                                              try clear c41
                                              try clear c42
                                              try clear c42b0
                                              try clear c43
                                              try clear c43b0
                                              try clear c44
                                              try clear c44b0
                                              try clear c46
                                              try clear c46b0
                                              try clear c48
                                              try clear c48b0
                                              try clear c49
                                              try clear c49b0
                                              try clear q50
                                              try clear c51
                                              try clear c52
                                              try clear c52b0
                                              try clear c54
                                              try clear c54b0
                                              try clear c55
                                              try clear c55b0
                                              try clear c56
                                              try clear c56b0
                                              try clear p64
                                              try clear c67
                                              try clear c67b0
                                              try clear c68
                                              try clear c70
                                              try clear c70b0
                                              try clear c71
                                              try clear c71b0
                                              try clear q72
                                              try clear c73
                                              try clear c74
                                              try clear c74b0
                                              try clear c77
                                              try clear hx284_0
                                              try clear hx285_0
                                              try clear hx286_0
                                              try clear hx287_0
                                              try clear hx288_0
                                              try clear hx289_0
                                              try clear hx290_0
                                              try clear hx291_0
                                              try clear hx292_0
                                              try clear hx292_1
                                              try clear hx292_2
                                              try clear p2
                                              try clear p28
                                              try clear p284
                                              try clear p285
                                              try clear p286
                                              try clear p287
                                              try clear p288
                                              try clear p289
                                              try clear p29
                                              try clear p290
                                              try clear p291
                                              try clear p292
                                              try clear p6
                                              try clear p64
                                              try clear q2
                                              try clear q28
                                              try clear q284
                                              try clear q285
                                              try clear q286
                                              try clear q287
                                              try clear q288
                                              try clear q289
                                              try clear q29
                                              try clear q290
                                              try clear q291
                                              try clear q292
                                              try clear q5
                                              try clear q50
                                              try clear q7
                                              try clear q72
                                              obtain ⟨x17_8, x18_8, rfl, rfl, HA, HK8, HO_11, HO_13, HB⟩ := hrel
                                              cases gk with
                                              | zero => exact absurd HA.out (by simp [stepladderlaw21_VelvetSmooth.l2])
                                              | succ k8 =>
                                                have H := HA.out
                                                clear HA
                                                simp only [stepladderlaw21_VelvetSmooth.l2] at H
                                                by_cases c78 : x18_8 < (t276.length : Int)
                                                · rw [if_pos c78] at H
                                                  have c78b0 : decide (x18_8 < (t276.length : Int)) = true := decide_eq_true c78
                                                  clear c78
                                                  by_cases c79 : x17_8 = true
                                                  · subst c79
                                                    have H1 : (stepladderlaw21_VelvetSmooth.l2 k8 l0 a1 a3 t276 t280 (wrap64 (x15_5 + 1)) x16_5 true (wrap64 (x18_8 + 1))) = some r := by rw [if_pos rfl] at H; exact H
                                                    clear H
                                                    have H := H1
                                                    clear H1
                                                    have H' := Aside0.mk H
                                                    clear H
                                                    go_wp2
                                                    repeat (go_quiet (fail); try go_wp2)
                                                    go_roundg k8
                                                    case measure => have := HJ6.out; have := HJ13.out; have := HJ26.out; have := HK4.out; have := HK5.out; have := HJ65.out; have := HJ68.out; have := HK8.out; omega
                                                    case rel => exact ⟨(true), (wrap64 (x18_8 + 1)), (by first | rfl | (simp; done) | (simp [*]; done)), (by first | rfl | (simp; done) | (simp [*]; done)), H', ⟨by have := HJ6.out; have := HJ13.out; have := HJ26.out; have := HK4.out; have := HK5.out; have := HJ65.out; have := HJ68.out; have := HK8.out; omega⟩, ⟨by (with_reducible repeat (first | apply Kd.R_alloc | apply Kd.R_drewN | apply Kd.R_drew)); exact HO_11.out⟩, ⟨by (with_reducible repeat (first | apply Kd.R_alloc | apply Kd.R_drewN | apply Kd.R_drew)); exact HO_13.out⟩, ⟨by repeat (first | (with_reducible first | exact HB.out | apply below_alloc | apply pw_below_drewN | apply below_drew1) | exact HB.out)⟩⟩
                                                  · replace c79 := Bool.eq_false_iff.mpr c79
                                                    subst c79
                                                    have H1 : (if 0 ≤ x18_8 then (stepladderlaw21_VelvetSmooth.l2 k8 l0 a1 a3 t276 t280 (wrap64 (x15_5 + 1)) x16_5 ((rd t276 x18_8) == x16_5) (wrap64 (x18_8 + 1))) else (none)) = some r := by rw [if_neg (show ¬ (false = true) by decide)] at H; exact H
                                                    clear H
                                                    have H := H1
                                                    clear H1
                                                    by_cases c80 : 0 ≤ x18_8
                                                    · rw [if_pos c80] at H
                                                      have c80b0 : decide (0 ≤ x18_8) = true := decide_eq_true c80
                                                      clear c80
                                                      have H' := Aside0.mk H
                                                      clear H
                                                      have p293 : 0 ≤ (x18_8 : Int) := of_decide_eq_true (by first | (with_reducible assumption) | assumption)
                                                      have q293 : x18_8 < (t276.length : Int) := of_decide_eq_true (by first | (with_reducible assumption) | assumption)
                                                      obtain ⟨ad293, e293, hx293_0⟩ := Kd.at_int (Kd.R_reads' HO_11.out).2.2 x18_8 p293 q293
                                                      cases e293
                                                      replace p293 := eq_true p293
                                                      replace q293 := eq_true q293
                                                      go_wp2
                                                      repeat (go_quiet (fail); try go_wp2)
                                                      go_roundg k8
                                                      case measure => have := HJ6.out; have := HJ13.out; have := HJ26.out; have := HK4.out; have := HK5.out; have := HJ65.out; have := HJ68.out; have := HK8.out; omega
                                                      case rel => exact ⟨(((rd t276 x18_8) == x16_5)), (wrap64 (x18_8 + 1)), (by first | rfl | (simp; done) | (simp [*]; done)), (by first | rfl | (simp; done) | (simp [*]; done)), H', ⟨by have := HJ6.out; have := HJ13.out; have := HJ26.out; have := HK4.out; have := HK5.out; have := HJ65.out; have := HJ68.out; have := HK8.out; omega⟩, ⟨by (with_reducible repeat (first | apply Kd.R_alloc | apply Kd.R_drewN | apply Kd.R_drew)); exact HO_11.out⟩, ⟨by (with_reducible repeat (first | apply Kd.R_alloc | apply Kd.R_drewN | apply Kd.R_drew)); exact HO_13.out⟩, ⟨by repeat (first | (with_reducible first | exact HB.out | apply below_alloc | apply pw_below_drewN | apply below_drew1) | exact HB.out)⟩⟩
                                                    · rw [if_neg c80] at H
                                                      exact absurd H (by simp)
                                                · rw [if_neg c78] at H
                                                  have c78b0 : decide (x18_8 < (t276.length : Int)) = false := decide_eq_false c78
                                                  clear c78
                                                  by_cases c81 : x17_8 = true
                                                  · subst c81
                                                    have H1 : (stepladderlaw21_VelvetSmooth.l1 k8 l0 a1 a3 t276 t280 (wrap64 (x15_5 + 1)) (wrap64 (x16_5 - 1))) = some r := by rw [if_pos rfl] at H; exact H
                                                    clear H
                                                    have H := H1
                                                    clear H1
                                                    have H' := Aside0.mk H
                                                    clear H
                                                    go_wp2
                                                    repeat (go_quiet (fail); try go_wp2)
                                                    go_roundg k8
                                                    case measure => have := HJ6.out; have := HJ13.out; have := HJ26.out; have := HK4.out; have := HK5.out; have := HJ65.out; have := HJ68.out; have := HK8.out; omega
                                                    case rel => exact ⟨((wrap64 (x15_5 + 1))), (wrap64 (x16_5 - 1)), (by first | rfl | (simp; done) | (simp [*]; done)), (by first | rfl | (simp; done) | (simp [*]; done)), H', ⟨by have := HJ6.out; have := HJ13.out; have := HJ26.out; have := HK4.out; have := HK5.out; have := HJ65.out; have := HJ68.out; have := HK8.out; omega⟩, ⟨by (with_reducible repeat (first | apply Kd.R_alloc | apply Kd.R_drewN | apply Kd.R_drew)); exact HO_11.out⟩, ⟨by (with_reducible repeat (first | apply Kd.R_alloc | apply Kd.R_drewN | apply Kd.R_drew)); exact HO_13.out⟩, ⟨by repeat (first | (with_reducible first | exact HB.out | apply below_alloc | apply pw_below_drewN | apply below_drew1) | exact HB.out)⟩⟩
                                                  · replace c81 := Bool.eq_false_iff.mpr c81
                                                    subst c81
                                                    have H1 : (some false) = some r := by rw [if_neg (show ¬ (false = true) by decide)] at H; exact H
                                                    clear H
                                                    have H := H1
                                                    clear H1
                                                    obtain rfl := Option.some.inj H
                                                    go_wp2
                                                    repeat (go_quiet (fail); try go_wp2)
                                                    go_ret
                                                    exact ⟨by first | rfl | (simp [errW_none, errW_some] <;> rfl) | (simp [*, errW_none, errW_some] <;> rfl), by repeat (first | (with_reducible first | exact HB.out | apply below_alloc | apply pw_below_drewN | apply below_drew1) | exact HB.out)⟩
                                    · replace c68 := Bool.eq_false_iff.mpr c68
                                      subst c68
                                      have H1 : (some true) = some r := by rw [if_neg (show ¬ (false = true) by decide)] at H; exact H
                                      clear H
                                      have H := H1
                                      clear H1
                                      obtain rfl := Option.some.inj H
                                      go_wp2
                                      repeat (go_quiet (fail); try go_wp2)
                                      go_ret
                                      exact ⟨by first | rfl | (simp [errW_none, errW_some] <;> rfl) | (simp [*, errW_none, errW_some] <;> rfl), by repeat (first | (with_reducible first | exact HB.out | apply below_alloc | apply pw_below_drewN | apply below_drew1) | exact HB.out)⟩
              · replace c26 := Bool.eq_false_iff.mpr c26
                subst c26
                have H1 : (some ((t276.length : Int) == 0)) = some r := by rw [if_neg (show ¬ (false = true) by decide)] at H; exact H
                clear H
                have H := H1
                clear H1
                obtain rfl := Option.some.inj H
                obtain ⟨Ao82, co82, eo82⟩ := Kd.R_slice HO_11.out
                subst eo82
                go_wp2
                repeat (go_quiet (fail); try go_wp2)
                go_ret
                exact ⟨by first | rfl | (simp [errW_none, errW_some] <;> rfl) | (simp [*, errW_none, errW_some] <;> rfl), by repeat (first | (with_reducible first | exact HB.out | apply below_alloc | apply pw_below_drewN | apply below_drew1) | exact HB.out)⟩

end Go.Proofs.Yteekdggainficaa.X
