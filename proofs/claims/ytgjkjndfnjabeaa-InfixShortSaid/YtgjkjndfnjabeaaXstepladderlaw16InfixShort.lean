-- By this session's own program (wip/tools/xprint.py), over the kit's print. Not trusted: Lean checks it.
import Derived.Test.YtgjkjndfnjabeaaX0
import Derived.Test.YtgjkjndfnjabeaaXinfixFollow
import Derived.Test.YtgjkjndfnjabeaaXstepladderlaw16awake
namespace Go.Proofs.Ytgjkjndfnjabeaa.X
open Go.RowKit Go.Proofs.YtgjkjndfnjabeaaW.PrintWords Go.Proofs.YtgjkjndfnjabeaaW.PrintLast Go.Proofs.YtgjkjndfnjabeaaW.PrintMore
attribute [local go_sem] max2_int min2_int max_two min_two max_three min_three max_four min_four   -- for this text's walks alone
set_option linter.unusedVariables false
set_option linter.unusedSimpArgs false

/-! ### stepladderlaw16_InfixShort: function 8 -/
mutual
def stepladderlaw16_InfixShort.j0 : Nat → List Int → Int → Int → Int → Bool → Bool → Option (Bool)
  | 0, _, _, _, _, _, _ => none
  | k + 1, x0, x1, x2, x3, x9, x22 => if x22 = true then (some x9) else ((infix_Follow.f x0 x1 x2).bind fun bt321 => (if bt321.2 = true then (if (bt321.1.length : Int) > (wrap64 ((wrap64 (x1 - x2)) + 1)) then (stepladderlaw16_InfixShort.j1 k x0 x3 bt321.1 true) else (if x1 = x2 then (stepladderlaw16_InfixShort.j1 k x0 x3 bt321.1 ((bt321.1.length : Int) != 1)) else (stepladderlaw16_InfixShort.j1 k x0 x3 bt321.1 false))) else (some true)))
def stepladderlaw16_InfixShort.j1 : Nat → List Int → Int → List Int → Bool → Option (Bool)
  | 0, _, _, _, _ => none
  | k + 1, x0, x3, x10, x49 => if x49 = true then (some false) else (if x3 < 0 then (stepladderlaw16_InfixShort.j2 k x0 x3 x10 true) else (stepladderlaw16_InfixShort.j2 k x0 x3 x10 (decide (x3 ≥ (wrap64 ((x10.length : Int) - 1))))))
def stepladderlaw16_InfixShort.j2 : Nat → List Int → Int → List Int → Bool → Option (Bool)
  | 0, _, _, _, _ => none
  | k + 1, x0, x3, x10, x58 => if x58 = true then (some true) else (if 0 ≤ x3 then (if x3 < (x10.length : Int) then (if 0 ≤ (wrap64 (x3 + 1)) then (if (wrap64 (x3 + 1)) < (x10.length : Int) then (if (rd x10 x3) < 0 then (stepladderlaw16_InfixShort.j3 k x0 (rd x10 x3) (rd x10 (wrap64 (x3 + 1))) true) else (if (rd x10 (wrap64 (x3 + 1))) ≥ (x0.length : Int) then (stepladderlaw16_InfixShort.j3 k x0 (rd x10 x3) (rd x10 (wrap64 (x3 + 1))) true) else (stepladderlaw16_InfixShort.j3 k x0 (rd x10 x3) (rd x10 (wrap64 (x3 + 1))) (decide ((rd x10 x3) ≥ (rd x10 (wrap64 (x3 + 1)))))))) else (none)) else (none)) else (none)) else (none))
def stepladderlaw16_InfixShort.j3 : Nat → List Int → Int → Int → Bool → Option (Bool)
  | 0, _, _, _, _ => none
  | k + 1, x0, x12, x13, x80 => if x80 = true then (some false) else (stepladderlaw16_InfixShort.l0 k x0 x12 x13 (wrap64 (x12 + 1)))
def stepladderlaw16_InfixShort.l0 : Nat → List Int → Int → Int → Int → Option (Bool)
  | 0, _, _, _, _ => none
  | k + 1, x0, x12, x13, x14 => if x14 < x13 then (if 0 ≤ x14 then (if x14 < (x0.length : Int) then (if 0 ≤ x12 then (if x12 < (x0.length : Int) then (if (rd x0 x14) ≥ (rd x0 x12) then (some false) else (stepladderlaw16_InfixShort.l0 k x0 x12 x13 (wrap64 (x14 + 1)))) else (none)) else (none)) else (none)) else (none)) else (some true)
end
def stepladderlaw16_InfixShort.f (k : Nat) (l0 : List Int) (a1 : Int) (a2 : Int) (a3 : Int) : Option (Bool) := (stepladderlaw16_awake.f k).bind fun t320 => (if t320 = true then (stepladderlaw16_InfixShort.j0 k l0 a1 a2 a3 t320 (decide ((l0.length : Int) > 210))) else (stepladderlaw16_InfixShort.j0 k l0 a1 a2 a3 t320 true))
theorem stepladderlaw16_InfixShort.mono_l : ∀ k, (∀ y0 y1 y2 y3 y4 y5, LeO (stepladderlaw16_InfixShort.j0 k y0 y1 y2 y3 y4 y5) (stepladderlaw16_InfixShort.j0 (k + 1) y0 y1 y2 y3 y4 y5)) ∧ (∀ y0 y1 y2 y3, LeO (stepladderlaw16_InfixShort.j1 k y0 y1 y2 y3) (stepladderlaw16_InfixShort.j1 (k + 1) y0 y1 y2 y3)) ∧ (∀ y0 y1 y2 y3, LeO (stepladderlaw16_InfixShort.j2 k y0 y1 y2 y3) (stepladderlaw16_InfixShort.j2 (k + 1) y0 y1 y2 y3)) ∧ (∀ y0 y1 y2 y3, LeO (stepladderlaw16_InfixShort.j3 k y0 y1 y2 y3) (stepladderlaw16_InfixShort.j3 (k + 1) y0 y1 y2 y3)) ∧ (∀ y0 y1 y2 y3, LeO (stepladderlaw16_InfixShort.l0 k y0 y1 y2 y3) (stepladderlaw16_InfixShort.l0 (k + 1) y0 y1 y2 y3))
  | 0 => ⟨fun _ _ _ _ _ _ r h => by simp [stepladderlaw16_InfixShort.j0] at h, fun _ _ _ _ r h => by simp [stepladderlaw16_InfixShort.j1] at h, fun _ _ _ _ r h => by simp [stepladderlaw16_InfixShort.j2] at h, fun _ _ _ _ r h => by simp [stepladderlaw16_InfixShort.j3] at h, fun _ _ _ _ r h => by simp [stepladderlaw16_InfixShort.l0] at h⟩
  | k + 1 => by
    obtain ⟨ih0, ih1, ih2, ih3, ih4⟩ := stepladderlaw16_InfixShort.mono_l k
    refine ⟨?_, ?_, ?_, ?_, ?_⟩
    · intro y0 y1 y2 y3 y4 y5
      unfold stepladderlaw16_InfixShort.j0
      repeat' first
      | (with_reducible exact ih0 _ _ _ _ _ _)
      | (with_reducible exact ih1 _ _ _ _)
      | (with_reducible exact ih2 _ _ _ _)
      | (with_reducible exact ih3 _ _ _ _)
      | (with_reducible exact ih4 _ _ _ _)
      | (with_reducible exact stepladderlaw16_awake.mono _)
      | (with_reducible exact LeO.refl _)
      | (with_reducible exact LeO.none _)
      | (with_reducible refine LeO.ite ?_ ?_)
      | (with_reducible refine LeO.bind ?_ (fun _ => ?_))
      | exact ih0 _ _ _ _ _ _
      | exact ih1 _ _ _ _
      | exact ih2 _ _ _ _
      | exact ih3 _ _ _ _
      | exact ih4 _ _ _ _
      | exact stepladderlaw16_awake.mono _
      | exact LeO.none _
      | refine LeO.ite ?_ ?_
      | refine LeO.bind ?_ (fun _ => ?_)
    · intro y0 y1 y2 y3
      unfold stepladderlaw16_InfixShort.j1
      repeat' first
      | (with_reducible exact ih0 _ _ _ _ _ _)
      | (with_reducible exact ih1 _ _ _ _)
      | (with_reducible exact ih2 _ _ _ _)
      | (with_reducible exact ih3 _ _ _ _)
      | (with_reducible exact ih4 _ _ _ _)
      | (with_reducible exact stepladderlaw16_awake.mono _)
      | (with_reducible exact LeO.refl _)
      | (with_reducible exact LeO.none _)
      | (with_reducible refine LeO.ite ?_ ?_)
      | (with_reducible refine LeO.bind ?_ (fun _ => ?_))
      | exact ih0 _ _ _ _ _ _
      | exact ih1 _ _ _ _
      | exact ih2 _ _ _ _
      | exact ih3 _ _ _ _
      | exact ih4 _ _ _ _
      | exact stepladderlaw16_awake.mono _
      | exact LeO.none _
      | refine LeO.ite ?_ ?_
      | refine LeO.bind ?_ (fun _ => ?_)
    · intro y0 y1 y2 y3
      unfold stepladderlaw16_InfixShort.j2
      repeat' first
      | (with_reducible exact ih0 _ _ _ _ _ _)
      | (with_reducible exact ih1 _ _ _ _)
      | (with_reducible exact ih2 _ _ _ _)
      | (with_reducible exact ih3 _ _ _ _)
      | (with_reducible exact ih4 _ _ _ _)
      | (with_reducible exact stepladderlaw16_awake.mono _)
      | (with_reducible exact LeO.refl _)
      | (with_reducible exact LeO.none _)
      | (with_reducible refine LeO.ite ?_ ?_)
      | (with_reducible refine LeO.bind ?_ (fun _ => ?_))
      | exact ih0 _ _ _ _ _ _
      | exact ih1 _ _ _ _
      | exact ih2 _ _ _ _
      | exact ih3 _ _ _ _
      | exact ih4 _ _ _ _
      | exact stepladderlaw16_awake.mono _
      | exact LeO.none _
      | refine LeO.ite ?_ ?_
      | refine LeO.bind ?_ (fun _ => ?_)
    · intro y0 y1 y2 y3
      unfold stepladderlaw16_InfixShort.j3
      repeat' first
      | (with_reducible exact ih0 _ _ _ _ _ _)
      | (with_reducible exact ih1 _ _ _ _)
      | (with_reducible exact ih2 _ _ _ _)
      | (with_reducible exact ih3 _ _ _ _)
      | (with_reducible exact ih4 _ _ _ _)
      | (with_reducible exact stepladderlaw16_awake.mono _)
      | (with_reducible exact LeO.refl _)
      | (with_reducible exact LeO.none _)
      | (with_reducible refine LeO.ite ?_ ?_)
      | (with_reducible refine LeO.bind ?_ (fun _ => ?_))
      | exact ih0 _ _ _ _ _ _
      | exact ih1 _ _ _ _
      | exact ih2 _ _ _ _
      | exact ih3 _ _ _ _
      | exact ih4 _ _ _ _
      | exact stepladderlaw16_awake.mono _
      | exact LeO.none _
      | refine LeO.ite ?_ ?_
      | refine LeO.bind ?_ (fun _ => ?_)
    · intro y0 y1 y2 y3
      unfold stepladderlaw16_InfixShort.l0
      repeat' first
      | (with_reducible exact ih0 _ _ _ _ _ _)
      | (with_reducible exact ih1 _ _ _ _)
      | (with_reducible exact ih2 _ _ _ _)
      | (with_reducible exact ih3 _ _ _ _)
      | (with_reducible exact ih4 _ _ _ _)
      | (with_reducible exact stepladderlaw16_awake.mono _)
      | (with_reducible exact LeO.refl _)
      | (with_reducible exact LeO.none _)
      | (with_reducible refine LeO.ite ?_ ?_)
      | (with_reducible refine LeO.bind ?_ (fun _ => ?_))
      | exact ih0 _ _ _ _ _ _
      | exact ih1 _ _ _ _
      | exact ih2 _ _ _ _
      | exact ih3 _ _ _ _
      | exact ih4 _ _ _ _
      | exact stepladderlaw16_awake.mono _
      | exact LeO.none _
      | refine LeO.ite ?_ ?_
      | refine LeO.bind ?_ (fun _ => ?_)
theorem stepladderlaw16_InfixShort.mono : ∀ a0 a1 a2 a3 k, LeO (stepladderlaw16_InfixShort.f k a0 a1 a2 a3) (stepladderlaw16_InfixShort.f (k + 1) a0 a1 a2 a3) := by
  intro a0 a1 a2 a3 k
  obtain ⟨ih0, ih1, ih2, ih3, ih4⟩ := stepladderlaw16_InfixShort.mono_l k
  unfold stepladderlaw16_InfixShort.f
  repeat' first
      | (with_reducible exact ih0 _ _ _ _ _ _)
      | (with_reducible exact ih1 _ _ _ _)
      | (with_reducible exact ih2 _ _ _ _)
      | (with_reducible exact ih3 _ _ _ _)
      | (with_reducible exact ih4 _ _ _ _)
      | (with_reducible exact stepladderlaw16_awake.mono _)
      | (with_reducible exact LeO.refl _)
      | (with_reducible exact LeO.none _)
      | (with_reducible refine LeO.ite ?_ ?_)
      | (with_reducible refine LeO.bind ?_ (fun _ => ?_))
      | exact ih0 _ _ _ _ _ _
      | exact ih1 _ _ _ _
      | exact ih2 _ _ _ _
      | exact ih3 _ _ _ _
      | exact ih4 _ _ _ _
      | exact stepladderlaw16_awake.mono _
      | exact LeO.none _
      | refine LeO.ite ?_ ?_
      | refine LeO.bind ?_ (fun _ => ?_)
set_option maxHeartbeats 8000000 in
set_option maxRecDepth 100000 in
theorem stepladderlaw16_InfixShort.calls (k : Nat) (A0 : Option Addr) (c0 : Nat) (l0 : List Int) (a1 : Int) (a2 : Int) (a3 : Int) (r : Bool) (w : World) (hr0 : Kd.C (Kd.int .i64) w A0 l0.length l0) (hc0 : l0.length ≤ c0) (h : stepladderlaw16_InfixShort.f k l0 a1 a2 a3 = some r) :
    Calls Try.prog 8 #[.slice A0 l0.length c0, .int .i64 a1, .int .i64 a2, .int .i64 a3] w fun e w' => e = .returned (.bool r) ∧ Below w.heap.size w w' := by
  have HR0 := Aside0.mk hr0
  have HC0 := Aside0.mk hc0
  clear hr0 hc0
  have HB := Aside0.mk (Below.refl w.heap.size w)
  have H : ((stepladderlaw16_awake.f k).bind fun t320 => (if t320 = true then (stepladderlaw16_InfixShort.j0 k l0 a1 a2 a3 t320 (decide ((l0.length : Int) > 210))) else (stepladderlaw16_InfixShort.j0 k l0 a1 a2 a3 t320 true))) = some r := h
  clear h
  replace H := Option.bind_eq_some_iff.mp H
  obtain ⟨t320, A50, H⟩ := H
  replace H : (if t320 = true then (stepladderlaw16_InfixShort.j0 k l0 a1 a2 a3 t320 (decide ((l0.length : Int) > 210))) else (stepladderlaw16_InfixShort.j0 k l0 a1 a2 a3 t320 true)) = some r := H
  have A5 := Aside0.mk A50
  clear A50
  have HC6 := Aside0.mk H
  clear H
  go_enter Try.func8, Try.ntmps8
  go_upto_region 2 with (first | (go_at_call 15; (with_reducible refine (stepladderlaw16_awake.calls k  t320 _ A5.out).mono ?_); rintro e w7 ⟨rfl, hb⟩; have n0_ := Aside0.mk (below_step (by repeat (first | (with_reducible first | exact HB.out | apply below_alloc | apply pw_below_drewN | apply below_drew1) | exact HB.out)) hb); clear HB; have HB := n0_; clear n0_; (try clear hb); (try clear hb2); (try clear hk); (try clear hi)))
  repeat (go_quiet (first | (go_at_call 15; (with_reducible refine (stepladderlaw16_awake.calls k  t320 _ A5.out).mono ?_); rintro e w7 ⟨rfl, hb⟩; have n0_ := Aside0.mk (below_step (by repeat (first | (with_reducible first | exact HB.out | apply below_alloc | apply pw_below_drewN | apply below_drew1) | exact HB.out)) hb); clear HB; have HB := n0_; clear n0_; (try clear hb); (try clear hb2); (try clear hk); (try clear hi))); go_upto_region 2 with (first | (go_at_call 15; (with_reducible refine (stepladderlaw16_awake.calls k  t320 _ A5.out).mono ?_); rintro e w7 ⟨rfl, hb⟩; have n0_ := Aside0.mk (below_step (by repeat (first | (with_reducible first | exact HB.out | apply below_alloc | apply pw_below_drewN | apply below_drew1) | exact HB.out)) hb); clear HB; have HB := n0_; clear n0_; (try clear hb); (try clear hb2); (try clear hk); (try clear hi))))
  (try simp only [Act.put, List.setIfInBounds_toArray, List.set_cons_zero, List.set_cons_succ])
  go_cut [22] (fun v22 wc => ∃ (kq : Nat) (x22_5 : Bool), v22 = .bool x22_5 ∧ Aside0 (stepladderlaw16_InfixShort.j0 kq l0 a1 a2 a3 t320 x22_5 = some r) ∧ Aside0 (kq ≤ k) ∧ Aside0 (Below w.heap.size w wc))
  case first =>
    have H := HC6.out
    clear HC6
    by_cases c8 : t320 = true
    · subst c8
      have H1 : (stepladderlaw16_InfixShort.j0 k l0 a1 a2 a3 true (decide ((l0.length : Int) > 210))) = some r := by rw [if_pos rfl] at H; exact H
      clear H
      have H := H1
      clear H1
      have H' := Aside0.mk H
      clear H
      go_wp2
      repeat (go_quiet (fail); try go_wp2)
      go_meet
      case rel => exact ⟨_, (decide ((l0.length : Int) > 210)), (by first | rfl | (simp; done) | (simp [*]; done)), H', ⟨by first | omega | exact Nat.le_refl _⟩, ⟨by repeat (first | (with_reducible first | exact HB.out | apply below_alloc | apply pw_below_drewN | apply below_drew1) | exact HB.out)⟩⟩
    · replace c8 := Bool.eq_false_iff.mpr c8
      subst c8
      have H1 : (stepladderlaw16_InfixShort.j0 k l0 a1 a2 a3 false true) = some r := by rw [if_neg (show ¬ (false = true) by decide)] at H; exact H
      clear H
      have H := H1
      clear H1
      have H' := Aside0.mk H
      clear H
      go_wp2
      repeat (go_quiet (fail); try go_wp2)
      go_meet
      case rel => exact ⟨_, (true), (by first | rfl | (simp; done) | (simp [*]; done)), H', ⟨by first | omega | exact Nat.le_refl _⟩, ⟨by repeat (first | (with_reducible first | exact HB.out | apply below_alloc | apply pw_below_drewN | apply below_drew1) | exact HB.out)⟩⟩
  case rest =>
    clear HC6
    try clear p2
    try clear c8
    obtain ⟨kq, x22_5, rfl, HA, HJ5, HB⟩ := hcut
    cases kq with
    | zero => exact absurd HA.out (by simp [stepladderlaw16_InfixShort.j0])
    | succ kj5 =>
      have H := HA.out
      clear HA
      simp only [stepladderlaw16_InfixShort.j0] at H
      by_cases c9 : x22_5 = true
      · subst c9
        have H1 : (some t320) = some r := by rw [if_pos rfl] at H; exact H
        clear H
        have H := H1
        clear H1
        obtain rfl := Option.some.inj H
        go_wp2
        repeat (go_quiet (fail); try go_wp2)
        go_ret
        exact ⟨by first | rfl | (simp [errW_none, errW_some] <;> rfl) | (simp [*, errW_none, errW_some] <;> rfl), by repeat (first | (with_reducible first | exact HB.out | apply below_alloc | apply pw_below_drewN | apply below_drew1) | exact HB.out)⟩
      · replace c9 := Bool.eq_false_iff.mpr c9
        subst c9
        have H1 : ((infix_Follow.f l0 a1 a2).bind fun bt321 => (if bt321.2 = true then (if (bt321.1.length : Int) > (wrap64 ((wrap64 (a1 - a2)) + 1)) then (stepladderlaw16_InfixShort.j1 kj5 l0 a3 bt321.1 true) else (if a1 = a2 then (stepladderlaw16_InfixShort.j1 kj5 l0 a3 bt321.1 ((bt321.1.length : Int) != 1)) else (stepladderlaw16_InfixShort.j1 kj5 l0 a3 bt321.1 false))) else (some true))) = some r := by rw [if_neg (show ¬ (false = true) by decide)] at H; exact H
        clear H
        have H := H1
        clear H1
        replace H := Option.bind_eq_some_iff.mp H
        obtain ⟨⟨t321, t322⟩, A100, H⟩ := H
        replace H : (if t322 = true then (if (t321.length : Int) > (wrap64 ((wrap64 (a1 - a2)) + 1)) then (stepladderlaw16_InfixShort.j1 kj5 l0 a3 t321 true) else (if a1 = a2 then (stepladderlaw16_InfixShort.j1 kj5 l0 a3 t321 ((t321.length : Int) != 1)) else (stepladderlaw16_InfixShort.j1 kj5 l0 a3 t321 false))) else (some true)) = some r := H
        have A10 := Aside0.mk A100
        clear A100
        by_cases c11 : t322 = true
        · subst c11
          have H1 : (if (t321.length : Int) > (wrap64 ((wrap64 (a1 - a2)) + 1)) then (stepladderlaw16_InfixShort.j1 kj5 l0 a3 t321 true) else (if a1 = a2 then (stepladderlaw16_InfixShort.j1 kj5 l0 a3 t321 ((t321.length : Int) != 1)) else (stepladderlaw16_InfixShort.j1 kj5 l0 a3 t321 false))) = some r := by rw [if_pos rfl] at H; exact H
          clear H
          have H := H1
          clear H1
          have HC12 := Aside0.mk H
          clear H
          go_upto_region 7 with (first | (go_at_call 16; (with_reducible refine (infix_Follow.calls _ _ l0 a1 a2 t321 true _ ?side1 ?side2 A10.out).mono ?_); (case side1 => repeat (first | exact (Kd.C_below HR0.out HB.out) | (with_reducible refine Kd.C_alloc ?_ _) | (with_reducible refine Kd.C_drewN ?_ _) | (with_reducible refine Kd.C_drew ?_))); (case side2 => exact HC0.out); rintro e w13 ⟨v323, rfl, ho0, hb⟩; have n0_ := Aside0.mk (Kd.R_lower ho0 (below_size (by repeat (first | (with_reducible first | exact HB.out | apply below_alloc | apply pw_below_drewN | apply below_drew1) | exact HB.out)))); have n1_ := Aside0.mk (below_step (by repeat (first | (with_reducible first | exact HB.out | apply below_alloc | apply pw_below_drewN | apply below_drew1) | exact HB.out)) hb); clear HB; have HO324 := n0_; have HB := n1_; clear n0_ n1_; (try clear hb); (try clear hb2); (try clear hk); (try clear hi); (try clear ho0)))
          repeat (go_quiet (first | (go_at_call 16; (with_reducible refine (infix_Follow.calls _ _ l0 a1 a2 t321 true _ ?side1 ?side2 A10.out).mono ?_); (case side1 => repeat (first | exact (Kd.C_below HR0.out HB.out) | (with_reducible refine Kd.C_alloc ?_ _) | (with_reducible refine Kd.C_drewN ?_ _) | (with_reducible refine Kd.C_drew ?_))); (case side2 => exact HC0.out); rintro e w13 ⟨v323, rfl, ho0, hb⟩; have n0_ := Aside0.mk (Kd.R_lower ho0 (below_size (by repeat (first | (with_reducible first | exact HB.out | apply below_alloc | apply pw_below_drewN | apply below_drew1) | exact HB.out)))); have n1_ := Aside0.mk (below_step (by repeat (first | (with_reducible first | exact HB.out | apply below_alloc | apply pw_below_drewN | apply below_drew1) | exact HB.out)) hb); clear HB; have HO324 := n0_; have HB := n1_; clear n0_ n1_; (try clear hb); (try clear hb2); (try clear hk); (try clear hi); (try clear ho0))); go_upto_region 7 with (first | (go_at_call 16; (with_reducible refine (infix_Follow.calls _ _ l0 a1 a2 t321 true _ ?side1 ?side2 A10.out).mono ?_); (case side1 => repeat (first | exact (Kd.C_below HR0.out HB.out) | (with_reducible refine Kd.C_alloc ?_ _) | (with_reducible refine Kd.C_drewN ?_ _) | (with_reducible refine Kd.C_drew ?_))); (case side2 => exact HC0.out); rintro e w13 ⟨v323, rfl, ho0, hb⟩; have n0_ := Aside0.mk (Kd.R_lower ho0 (below_size (by repeat (first | (with_reducible first | exact HB.out | apply below_alloc | apply pw_below_drewN | apply below_drew1) | exact HB.out)))); have n1_ := Aside0.mk (below_step (by repeat (first | (with_reducible first | exact HB.out | apply below_alloc | apply pw_below_drewN | apply below_drew1) | exact HB.out)) hb); clear HB; have HO324 := n0_; have HB := n1_; clear n0_ n1_; (try clear hb); (try clear hb2); (try clear hk); (try clear hi); (try clear ho0))))
          (try simp only [Act.put, List.setIfInBounds_toArray, List.set_cons_zero, List.set_cons_succ])
          go_cut [49] (fun v49 wc => ∃ (kq : Nat) (x49_11 : Bool), v49 = .bool x49_11 ∧ Aside0 (stepladderlaw16_InfixShort.j1 kq l0 a3 t321 x49_11 = some r) ∧ Aside0 (kq ≤ kj5) ∧ Aside0 (Kd.R (Kd.int .i64) 3 wc w.heap.size (fun _ => True) v323 t321) ∧ Aside0 (Below w.heap.size w wc))
          case first =>
            have H := HC12.out
            clear HC12
            by_cases c14 : (t321.length : Int) > (wrap64 ((wrap64 (a1 - a2)) + 1))
            · rw [if_pos c14] at H
              have c14b0 : decide ((wrap64 ((wrap64 (a1 - a2)) + 1)) < (t321.length : Int)) = true := decide_eq_true c14
              clear c14
              (first | rw [c14b0] | (simp only [i64_w, i32_w]; rw [c14b0]) | skip)
              have H' := Aside0.mk H
              clear H
              obtain ⟨Ao15, co15, eo15⟩ := Kd.R_slice HO324.out
              subst eo15
              go_wp2
              repeat (go_quiet (fail); try go_wp2)
              go_meet
              case rel => exact ⟨_, (true), (by first | rfl | (simp; done) | (simp [*]; done)), H', ⟨by have := HJ5.out; first | omega | exact Nat.le_refl _⟩, ⟨by (with_reducible repeat (first | apply Kd.R_alloc | apply Kd.R_drewN | apply Kd.R_drew)); exact HO324.out⟩, ⟨by repeat (first | (with_reducible first | exact HB.out | apply below_alloc | apply pw_below_drewN | apply below_drew1) | exact HB.out)⟩⟩
            · rw [if_neg c14] at H
              have c14b0 : decide ((wrap64 ((wrap64 (a1 - a2)) + 1)) < (t321.length : Int)) = false := decide_eq_false c14
              clear c14
              (first | rw [c14b0] | (simp only [i64_w, i32_w]; rw [c14b0]) | skip)
              by_cases c16 : a1 = a2
              · rw [if_pos c16] at H
                have c16b0 : (a1 == a2) = true := beq_iff_eq.mpr c16
                have c16b1 : (a1 != a2) = false := bne_eq_false_iff_eq.mpr c16
                clear c16
                have H' := Aside0.mk H
                clear H
                obtain ⟨Ao17, co17, eo17⟩ := Kd.R_slice HO324.out
                subst eo17
                go_wp2
                repeat (go_quiet (fail); try go_wp2)
                go_meet
                case rel => exact ⟨_, (((t321.length : Int) != 1)), (by first | rfl | (simp; done) | (simp [*]; done)), H', ⟨by have := HJ5.out; first | omega | exact Nat.le_refl _⟩, ⟨by (with_reducible repeat (first | apply Kd.R_alloc | apply Kd.R_drewN | apply Kd.R_drew)); exact HO324.out⟩, ⟨by repeat (first | (with_reducible first | exact HB.out | apply below_alloc | apply pw_below_drewN | apply below_drew1) | exact HB.out)⟩⟩
              · rw [if_neg c16] at H
                have c16b0 : (a1 == a2) = false := beq_eq_false_iff_ne.mpr c16
                have c16b1 : (a1 != a2) = true := bne_iff_ne.mpr c16
                have H' := Aside0.mk H
                clear H
                obtain ⟨Ao18, co18, eo18⟩ := Kd.R_slice HO324.out
                subst eo18
                go_wp2
                repeat (go_quiet (fail); try go_wp2)
                go_meet
                case rel => exact ⟨_, (false), (by first | rfl | (simp; done) | (simp [*]; done)), H', ⟨by have := HJ5.out; first | omega | exact Nat.le_refl _⟩, ⟨by (with_reducible repeat (first | apply Kd.R_alloc | apply Kd.R_drewN | apply Kd.R_drew)); exact HO324.out⟩, ⟨by repeat (first | (with_reducible first | exact HB.out | apply below_alloc | apply pw_below_drewN | apply below_drew1) | exact HB.out)⟩⟩
          case rest =>
            clear HC12
            try clear c1
            try clear p2
            try clear p6
            try clear c8
            try clear c9
            try clear c11
            try clear c14
            try clear c14b0
            try clear c16
            try clear c16b0
            try clear c16b1
            try clear p2
            obtain ⟨kq, x49_11, rfl, HA, HJ11, HO_10, HB⟩ := hcut
            cases kq with
            | zero => exact absurd HA.out (by simp [stepladderlaw16_InfixShort.j1])
            | succ kj11 =>
              have H := HA.out
              clear HA
              simp only [stepladderlaw16_InfixShort.j1] at H
              by_cases c19 : x49_11 = true
              · subst c19
                have H1 : (some false) = some r := by rw [if_pos rfl] at H; exact H
                clear H
                have H := H1
                clear H1
                obtain rfl := Option.some.inj H
                go_wp2
                repeat (go_quiet (fail); try go_wp2)
                go_ret
                exact ⟨by first | rfl | (simp [errW_none, errW_some] <;> rfl) | (simp [*, errW_none, errW_some] <;> rfl), by repeat (first | (with_reducible first | exact HB.out | apply below_alloc | apply pw_below_drewN | apply below_drew1) | exact HB.out)⟩
              · replace c19 := Bool.eq_false_iff.mpr c19
                subst c19
                have H1 : (if a3 < 0 then (stepladderlaw16_InfixShort.j2 kj11 l0 a3 t321 true) else (stepladderlaw16_InfixShort.j2 kj11 l0 a3 t321 (decide (a3 ≥ (wrap64 ((t321.length : Int) - 1)))))) = some r := by rw [if_neg (show ¬ (false = true) by decide)] at H; exact H
                clear H
                have H := H1
                clear H1
                have HC20 := Aside0.mk H
                clear H
                go_upto_region 9 with (fail)
                repeat (go_quiet (fail); go_upto_region 9 with (fail))
                go_cut [58] (fun v58 wc => ∃ (kq : Nat) (x58_19 : Bool), v58 = .bool x58_19 ∧ Aside0 (stepladderlaw16_InfixShort.j2 kq l0 a3 t321 x58_19 = some r) ∧ Aside0 (kq ≤ kj11) ∧ Aside0 (Kd.R (Kd.int .i64) 3 wc w.heap.size (fun _ => True) v323 t321) ∧ Aside0 (Below w.heap.size w wc))
                case first =>
                  have H := HC20.out
                  clear HC20
                  by_cases c21 : a3 < 0
                  · rw [if_pos c21] at H
                    have c21b0 : decide (a3 < 0) = true := decide_eq_true c21
                    clear c21
                    (first | rw [c21b0] | (simp only [i64_w, i32_w]; rw [c21b0]) | skip)
                    have H' := Aside0.mk H
                    clear H
                    go_wp2
                    repeat (go_quiet (fail); try go_wp2)
                    go_meet
                    case rel => exact ⟨_, (true), (by first | rfl | (simp; done) | (simp [*]; done)), H', ⟨by have := HJ5.out; have := HJ11.out; first | omega | exact Nat.le_refl _⟩, ⟨by (with_reducible repeat (first | apply Kd.R_alloc | apply Kd.R_drewN | apply Kd.R_drew)); exact HO_10.out⟩, ⟨by repeat (first | (with_reducible first | exact HB.out | apply below_alloc | apply pw_below_drewN | apply below_drew1) | exact HB.out)⟩⟩
                  · rw [if_neg c21] at H
                    have c21b0 : decide (a3 < 0) = false := decide_eq_false c21
                    clear c21
                    (first | rw [c21b0] | (simp only [i64_w, i32_w]; rw [c21b0]) | skip)
                    have H' := Aside0.mk H
                    clear H
                    obtain ⟨Ao22, co22, eo22⟩ := Kd.R_slice HO_10.out
                    subst eo22
                    go_wp2
                    repeat (go_quiet (fail); try go_wp2)
                    go_meet
                    case rel => exact ⟨_, (decide (a3 ≥ (wrap64 ((t321.length : Int) - 1)))), (by first | rfl | (simp; done) | (simp [*]; done)), H', ⟨by have := HJ5.out; have := HJ11.out; first | omega | exact Nat.le_refl _⟩, ⟨by (with_reducible repeat (first | apply Kd.R_alloc | apply Kd.R_drewN | apply Kd.R_drew)); exact HO_10.out⟩, ⟨by repeat (first | (with_reducible first | exact HB.out | apply below_alloc | apply pw_below_drewN | apply below_drew1) | exact HB.out)⟩⟩
                case rest =>
                  clear HC20
                  try clear c1
                  try clear c2
                  try clear p2
                  try clear p6
                  try clear c8
                  try clear c9
                  try clear c11
                  try clear c14
                  try clear c14b0
                  try clear c16
                  try clear c16b0
                  try clear c16b1
                  try clear c19
                  try clear c21
                  try clear c21b0
                  try clear p2
                  try clear p6
                  obtain ⟨kq, x58_19, rfl, HA, HJ19, HO_10, HB⟩ := hcut
                  cases kq with
                  | zero => exact absurd HA.out (by simp [stepladderlaw16_InfixShort.j2])
                  | succ kj19 =>
                    have H := HA.out
                    clear HA
                    simp only [stepladderlaw16_InfixShort.j2] at H
                    by_cases c23 : x58_19 = true
                    · subst c23
                      have H1 : (some true) = some r := by rw [if_pos rfl] at H; exact H
                      clear H
                      have H := H1
                      clear H1
                      obtain rfl := Option.some.inj H
                      go_wp2
                      repeat (go_quiet (fail); try go_wp2)
                      go_ret
                      exact ⟨by first | rfl | (simp [errW_none, errW_some] <;> rfl) | (simp [*, errW_none, errW_some] <;> rfl), by repeat (first | (with_reducible first | exact HB.out | apply below_alloc | apply pw_below_drewN | apply below_drew1) | exact HB.out)⟩
                    · replace c23 := Bool.eq_false_iff.mpr c23
                      subst c23
                      have H1 : (if 0 ≤ a3 then (if a3 < (t321.length : Int) then (if 0 ≤ (wrap64 (a3 + 1)) then (if (wrap64 (a3 + 1)) < (t321.length : Int) then (if (rd t321 a3) < 0 then (stepladderlaw16_InfixShort.j3 kj19 l0 (rd t321 a3) (rd t321 (wrap64 (a3 + 1))) true) else (if (rd t321 (wrap64 (a3 + 1))) ≥ (l0.length : Int) then (stepladderlaw16_InfixShort.j3 kj19 l0 (rd t321 a3) (rd t321 (wrap64 (a3 + 1))) true) else (stepladderlaw16_InfixShort.j3 kj19 l0 (rd t321 a3) (rd t321 (wrap64 (a3 + 1))) (decide ((rd t321 a3) ≥ (rd t321 (wrap64 (a3 + 1)))))))) else (none)) else (none)) else (none)) else (none)) = some r := by rw [if_neg (show ¬ (false = true) by decide)] at H; exact H
                      clear H
                      have H := H1
                      clear H1
                      by_cases c24 : 0 ≤ a3
                      · rw [if_pos c24] at H
                        have c24b0 : decide (0 ≤ a3) = true := decide_eq_true c24
                        clear c24
                        by_cases c25 : a3 < (t321.length : Int)
                        · rw [if_pos c25] at H
                          have c25b0 : decide (a3 < (t321.length : Int)) = true := decide_eq_true c25
                          clear c25
                          obtain ⟨ji26, hji26⟩ : ∃ j_ : Int, (wrap64 (a3 + 1)) = j_ := ⟨_, rfl⟩
                          replace H : (if 0 ≤ (ji26) then (if (ji26) < (t321.length : Int) then (if (rd t321 a3) < 0 then (stepladderlaw16_InfixShort.j3 kj19 l0 (rd t321 a3) (rd t321 (ji26)) true) else (if (rd t321 (ji26)) ≥ (l0.length : Int) then (stepladderlaw16_InfixShort.j3 kj19 l0 (rd t321 a3) (rd t321 (ji26)) true) else (stepladderlaw16_InfixShort.j3 kj19 l0 (rd t321 a3) (rd t321 (ji26)) (decide ((rd t321 a3) ≥ (rd t321 (ji26))))))) else (none)) else (none)) = some r := by first | (rw [hji26] at H; exact H) | (simp only [hji26] at H ⊢; exact H)
                          have hji26w : (IntKind.i64.wrap (a3 + 1)) = ji26 := (i64_w _).trans hji26
                          by_cases c27 : 0 ≤ (ji26)
                          · rw [if_pos c27] at H
                            have c27b0 : decide (0 ≤ (ji26)) = true := decide_eq_true c27
                            clear c27
                            by_cases c28 : (ji26) < (t321.length : Int)
                            · rw [if_pos c28] at H
                              have c28b0 : decide ((ji26) < (t321.length : Int)) = true := decide_eq_true c28
                              clear c28
                              have HC29 := Aside0.mk H
                              clear H
                              obtain ⟨Ao30, co30, eo30⟩ := Kd.R_slice HO_10.out
                              subst eo30
                              have p325 : 0 ≤ (a3 : Int) := of_decide_eq_true (by first | (with_reducible assumption) | assumption)
                              have q325 : a3 < (t321.length : Int) := of_decide_eq_true (by first | (with_reducible assumption) | assumption)
                              obtain ⟨ad325, e325, hx325_0⟩ := Kd.at_int (Kd.R_reads' HO_10.out).2.2 a3 p325 q325
                              cases e325
                              replace p325 := eq_true p325
                              replace q325 := eq_true q325
                              have p326 : 0 ≤ ((ji26) : Int) := of_decide_eq_true (by first | (with_reducible assumption) | assumption)
                              have q326 : (ji26) < (t321.length : Int) := of_decide_eq_true (by first | (with_reducible assumption) | assumption)
                              obtain ⟨ad326, e326, hx326_0⟩ := Kd.at_int (Kd.R_reads' HO_10.out).2.2 (ji26) p326 q326
                              obtain rfl : ad325 = ad326 := (by injection e326)
                              replace p326 := eq_true p326
                              replace q326 := eq_true q326
                              go_upto_region 13 with (fail)
                              repeat (go_quiet (fail); go_upto_region 13 with (fail))
                              go_cut [80] (fun v80 wc => ∃ (kq : Nat) (x80_28 : Bool), v80 = .bool x80_28 ∧ Aside0 (stepladderlaw16_InfixShort.j3 kq l0 (rd t321 a3) (rd t321 (ji26)) x80_28 = some r) ∧ Aside0 (kq ≤ kj19) ∧ Aside0 (Below w.heap.size w wc))
                              case first =>
                                have H := HC29.out
                                clear HC29
                                by_cases c31 : (rd t321 a3) < 0
                                · rw [if_pos c31] at H
                                  have c31b0 : decide ((rd t321 a3) < 0) = true := decide_eq_true c31
                                  clear c31
                                  (first | rw [c31b0] | (simp only [i64_w, i32_w]; rw [c31b0]) | skip)
                                  have H' := Aside0.mk H
                                  clear H
                                  go_wp2
                                  repeat (go_quiet (fail); try go_wp2)
                                  go_meet
                                  case rel => exact ⟨_, (true), (by first | rfl | (simp; done) | (simp [*]; done)), H', ⟨by have := HJ5.out; have := HJ11.out; have := HJ19.out; first | omega | exact Nat.le_refl _⟩, ⟨by repeat (first | (with_reducible first | exact HB.out | apply below_alloc | apply pw_below_drewN | apply below_drew1) | exact HB.out)⟩⟩
                                · rw [if_neg c31] at H
                                  have c31b0 : decide ((rd t321 a3) < 0) = false := decide_eq_false c31
                                  clear c31
                                  (first | rw [c31b0] | (simp only [i64_w, i32_w]; rw [c31b0]) | skip)
                                  by_cases c32 : (rd t321 (ji26)) ≥ (l0.length : Int)
                                  · rw [if_pos c32] at H
                                    have c32b0 : decide ((l0.length : Int) ≤ (rd t321 (ji26))) = true := decide_eq_true c32
                                    clear c32
                                    have H' := Aside0.mk H
                                    clear H
                                    go_wp2
                                    repeat (go_quiet (fail); try go_wp2)
                                    go_meet
                                    case rel => exact ⟨_, (true), (by first | rfl | (simp; done) | (simp [*]; done)), H', ⟨by have := HJ5.out; have := HJ11.out; have := HJ19.out; first | omega | exact Nat.le_refl _⟩, ⟨by repeat (first | (with_reducible first | exact HB.out | apply below_alloc | apply pw_below_drewN | apply below_drew1) | exact HB.out)⟩⟩
                                  · rw [if_neg c32] at H
                                    have c32b0 : decide ((l0.length : Int) ≤ (rd t321 (ji26))) = false := decide_eq_false c32
                                    clear c32
                                    have H' := Aside0.mk H
                                    clear H
                                    go_wp2
                                    repeat (go_quiet (fail); try go_wp2)
                                    go_meet
                                    case rel => exact ⟨_, (decide ((rd t321 a3) ≥ (rd t321 (ji26)))), (by first | rfl | (simp; done) | (simp only [← hji26] <;> (first | rfl | simp)) | (simp [*]; done)), H', ⟨by have := HJ5.out; have := HJ11.out; have := HJ19.out; first | omega | exact Nat.le_refl _⟩, ⟨by repeat (first | (with_reducible first | exact HB.out | apply below_alloc | apply pw_below_drewN | apply below_drew1) | exact HB.out)⟩⟩
                              case rest =>
                                clear HC29
                                try clear c1
                                try clear c2
                                try clear p2
                                try clear c3
                                try clear p3
                                try clear q3
                                try clear hx3
                                try clear p6
                                try clear c8
                                try clear c9
                                try clear c11
                                try clear c14
                                try clear c14b0
                                try clear c16
                                try clear c16b0
                                try clear c16b1
                                try clear c19
                                try clear c21
                                try clear c21b0
                                try clear c23
                                try clear c24
                                try clear c24b0
                                try clear c25
                                try clear c25b0
                                try clear c27
                                try clear c27b0
                                try clear c28
                                try clear c28b0
                                try clear c31
                                try clear c31b0
                                try clear c32
                                try clear c32b0
                                try clear p32
                                try clear q32
                                try clear hx32
                                try clear hx325_0
                                try clear hx326_0
                                try clear p2
                                try clear p325
                                try clear p326
                                try clear p6
                                try clear q325
                                try clear q326
                                obtain ⟨kq, x80_28, rfl, HA, HJ28, HB⟩ := hcut
                                cases kq with
                                | zero => exact absurd HA.out (by simp [stepladderlaw16_InfixShort.j3])
                                | succ kj28 =>
                                  have H := HA.out
                                  clear HA
                                  simp only [stepladderlaw16_InfixShort.j3] at H
                                  by_cases c33 : x80_28 = true
                                  · subst c33
                                    have H1 : (some false) = some r := by rw [if_pos rfl] at H; exact H
                                    clear H
                                    have H := H1
                                    clear H1
                                    obtain rfl := Option.some.inj H
                                    go_wp2
                                    repeat (go_quiet (fail); try go_wp2)
                                    go_ret
                                    exact ⟨by first | rfl | (simp [errW_none, errW_some] <;> rfl) | (simp only [← hji26]; first | rfl | (simp [errW_none, errW_some] <;> rfl)) | (simp [*, errW_none, errW_some] <;> rfl), by repeat (first | (with_reducible first | exact HB.out | apply below_alloc | apply pw_below_drewN | apply below_drew1) | exact HB.out)⟩
                                  · replace c33 := Bool.eq_false_iff.mpr c33
                                    subst c33
                                    have H1 : (stepladderlaw16_InfixShort.l0 kj28 l0 (rd t321 a3) (rd t321 (ji26)) (wrap64 ((rd t321 a3) + 1))) = some r := by rw [if_neg (show ¬ (false = true) by decide)] at H; exact H
                                    clear H
                                    have H := H1
                                    clear H1
                                    have H' := Aside0.mk H
                                    clear H
                                    go_wp2
                                    repeat (go_quiet (fail); try go_wp2)
                                    go_loopg [14] kj28 (fun kq v14 w' => ∃ (x14_5 : Int), v14 = .int .i64 x14_5 ∧ Aside0 (stepladderlaw16_InfixShort.l0 kq l0 (rd t321 a3) (rd t321 (ji26)) x14_5 = some r) ∧ Aside0 (kq ≤ kj28) ∧ Aside0 (Below w.heap.size w w'))
                                    case atStart => exact ⟨(wrap64 ((rd t321 a3) + 1)), (by first | rfl | (simp; done) | (simp [*]; done)), H', ⟨Nat.le_refl _⟩, ⟨by repeat (first | (with_reducible first | exact HB.out | apply below_alloc | apply pw_below_drewN | apply below_drew1) | exact HB.out)⟩⟩
                                    case round =>
                                      clear H'
                                      try clear c1
                                      try clear c2
                                      try clear p2
                                      try clear c3
                                      try clear p3
                                      try clear q3
                                      try clear hx3
                                      try clear p6
                                      try clear c8
                                      try clear c9
                                      try clear c11
                                      try clear c14
                                      try clear c14b0
                                      try clear c16
                                      try clear c16b0
                                      try clear c16b1
                                      try clear c19
                                      try clear c21
                                      try clear c21b0
                                      try clear c23
                                      try clear c24
                                      try clear c24b0
                                      try clear c25
                                      try clear c25b0
                                      try clear c27
                                      try clear c27b0
                                      try clear c28
                                      try clear c28b0
                                      try clear c31
                                      try clear c31b0
                                      try clear c32
                                      try clear c32b0
                                      try clear p32
                                      try clear q32
                                      try clear hx32
                                      try clear c33
                                      try clear hx325_0
                                      try clear hx326_0
                                      try clear p2
                                      try clear p3
                                      try clear p32
                                      try clear p325
                                      try clear p326
                                      try clear p6
                                      try clear q3
                                      try clear q32
                                      try clear q325
                                      try clear q326
                                      obtain ⟨x14_5, rfl, HA, HK5, HB⟩ := hrel
                                      cases gk with
                                      | zero => exact absurd HA.out (by simp [stepladderlaw16_InfixShort.l0])
                                      | succ k5 =>
                                        have H := HA.out
                                        clear HA
                                        simp only [stepladderlaw16_InfixShort.l0] at H
                                        by_cases c34 : x14_5 < (rd t321 (ji26))
                                        · rw [if_pos c34] at H
                                          have c34b0 : decide (x14_5 < (rd t321 (ji26))) = true := decide_eq_true c34
                                          clear c34
                                          by_cases c35 : 0 ≤ x14_5
                                          · rw [if_pos c35] at H
                                            have c35b0 : decide (0 ≤ x14_5) = true := decide_eq_true c35
                                            clear c35
                                            by_cases c36 : x14_5 < (l0.length : Int)
                                            · rw [if_pos c36] at H
                                              have c36b0 : decide (x14_5 < (l0.length : Int)) = true := decide_eq_true c36
                                              clear c36
                                              by_cases c37 : 0 ≤ (rd t321 a3)
                                              · rw [if_pos c37] at H
                                                have c37b0 : decide (0 ≤ (rd t321 a3)) = true := decide_eq_true c37
                                                clear c37
                                                by_cases c38 : (rd t321 a3) < (l0.length : Int)
                                                · rw [if_pos c38] at H
                                                  have c38b0 : decide ((rd t321 a3) < (l0.length : Int)) = true := decide_eq_true c38
                                                  clear c38
                                                  by_cases c39 : (rd l0 x14_5) ≥ (rd l0 (rd t321 a3))
                                                  · rw [if_pos c39] at H
                                                    have c39b0 : decide ((rd l0 (rd t321 a3)) ≤ (rd l0 x14_5)) = true := decide_eq_true c39
                                                    clear c39
                                                    obtain rfl := Option.some.inj H
                                                    have p327 : 0 ≤ (x14_5 : Int) := of_decide_eq_true (by first | (with_reducible assumption) | assumption)
                                                    have q327 : x14_5 < (l0.length : Int) := of_decide_eq_true (by first | (with_reducible assumption) | assumption)
                                                    obtain ⟨ad327, e327, hx327_0⟩ := Kd.at_int HR0.out x14_5 p327 q327
                                                    cases e327
                                                    replace hx327_0 := (HB.out.cell (World.block_lt_of_cell? w _ hx327_0)).trans hx327_0
                                                    replace p327 := eq_true p327
                                                    replace q327 := eq_true q327
                                                    have p328 : 0 ≤ ((rd t321 a3) : Int) := of_decide_eq_true (by first | (with_reducible assumption) | assumption)
                                                    have q328 : (rd t321 a3) < (l0.length : Int) := of_decide_eq_true (by first | (with_reducible assumption) | assumption)
                                                    obtain ⟨ad328, e328, hx328_0⟩ := Kd.at_int HR0.out (rd t321 a3) p328 q328
                                                    obtain rfl : ad327 = ad328 := (by injection e328)
                                                    replace hx328_0 := (HB.out.cell (World.block_lt_of_cell? w _ hx328_0)).trans hx328_0
                                                    replace p328 := eq_true p328
                                                    replace q328 := eq_true q328
                                                    go_wp2
                                                    repeat (go_quiet (fail); try go_wp2)
                                                    go_ret
                                                    exact ⟨by first | rfl | (simp [errW_none, errW_some] <;> rfl) | (simp only [← hji26]; first | rfl | (simp [errW_none, errW_some] <;> rfl)) | (simp [*, errW_none, errW_some] <;> rfl), by repeat (first | (with_reducible first | exact HB.out | apply below_alloc | apply pw_below_drewN | apply below_drew1) | exact HB.out)⟩
                                                  · rw [if_neg c39] at H
                                                    have c39b0 : decide ((rd l0 (rd t321 a3)) ≤ (rd l0 x14_5)) = false := decide_eq_false c39
                                                    clear c39
                                                    have H' := Aside0.mk H
                                                    clear H
                                                    have p327 : 0 ≤ (x14_5 : Int) := of_decide_eq_true (by first | (with_reducible assumption) | assumption)
                                                    have q327 : x14_5 < (l0.length : Int) := of_decide_eq_true (by first | (with_reducible assumption) | assumption)
                                                    obtain ⟨ad327, e327, hx327_0⟩ := Kd.at_int HR0.out x14_5 p327 q327
                                                    cases e327
                                                    replace hx327_0 := (HB.out.cell (World.block_lt_of_cell? w _ hx327_0)).trans hx327_0
                                                    replace p327 := eq_true p327
                                                    replace q327 := eq_true q327
                                                    have p328 : 0 ≤ ((rd t321 a3) : Int) := of_decide_eq_true (by first | (with_reducible assumption) | assumption)
                                                    have q328 : (rd t321 a3) < (l0.length : Int) := of_decide_eq_true (by first | (with_reducible assumption) | assumption)
                                                    obtain ⟨ad328, e328, hx328_0⟩ := Kd.at_int HR0.out (rd t321 a3) p328 q328
                                                    obtain rfl : ad327 = ad328 := (by injection e328)
                                                    replace hx328_0 := (HB.out.cell (World.block_lt_of_cell? w _ hx328_0)).trans hx328_0
                                                    replace p328 := eq_true p328
                                                    replace q328 := eq_true q328
                                                    go_wp2
                                                    repeat (go_quiet (fail); try go_wp2)
                                                    go_roundg k5
                                                    case measure => have := HJ5.out; have := HJ11.out; have := HJ19.out; have := HJ28.out; have := HK5.out; omega
                                                    case rel => exact ⟨(wrap64 (x14_5 + 1)), (by first | rfl | (simp; done) | (simp [*]; done)), H', ⟨by have := HJ5.out; have := HJ11.out; have := HJ19.out; have := HJ28.out; have := HK5.out; omega⟩, ⟨by repeat (first | (with_reducible first | exact HB.out | apply below_alloc | apply pw_below_drewN | apply below_drew1) | exact HB.out)⟩⟩
                                                · rw [if_neg c38] at H
                                                  exact absurd H (by simp)
                                              · rw [if_neg c37] at H
                                                exact absurd H (by simp)
                                            · rw [if_neg c36] at H
                                              exact absurd H (by simp)
                                          · rw [if_neg c35] at H
                                            exact absurd H (by simp)
                                        · rw [if_neg c34] at H
                                          have c34b0 : decide (x14_5 < (rd t321 (ji26))) = false := decide_eq_false c34
                                          clear c34
                                          obtain rfl := Option.some.inj H
                                          go_wp2
                                          repeat (go_quiet (fail); try go_wp2)
                                          go_ret
                                          exact ⟨by first | rfl | (simp [errW_none, errW_some] <;> rfl) | (simp only [← hji26]; first | rfl | (simp [errW_none, errW_some] <;> rfl)) | (simp [*, errW_none, errW_some] <;> rfl), by repeat (first | (with_reducible first | exact HB.out | apply below_alloc | apply pw_below_drewN | apply below_drew1) | exact HB.out)⟩
                            · rw [if_neg c28] at H
                              exact absurd H (by simp)
                          · rw [if_neg c27] at H
                            exact absurd H (by simp)
                        · rw [if_neg c25] at H
                          exact absurd H (by simp)
                      · rw [if_neg c24] at H
                        exact absurd H (by simp)
        · replace c11 := Bool.eq_false_iff.mpr c11
          subst c11
          have H1 : (some true) = some r := by rw [if_neg (show ¬ (false = true) by decide)] at H; exact H
          clear H
          have H := H1
          clear H1
          obtain rfl := Option.some.inj H
          go_wp2_with (first | (go_at_call 16; (with_reducible refine (infix_Follow.calls _ _ l0 a1 a2 t321 false _ ?side1 ?side2 A10.out).mono ?_); (case side1 => repeat (first | exact (Kd.C_below HR0.out HB.out) | (with_reducible refine Kd.C_alloc ?_ _) | (with_reducible refine Kd.C_drewN ?_ _) | (with_reducible refine Kd.C_drew ?_))); (case side2 => exact HC0.out); rintro e w40 ⟨v323, rfl, ho0, hb⟩; have n0_ := Aside0.mk (Kd.R_lower ho0 (below_size (by repeat (first | (with_reducible first | exact HB.out | apply below_alloc | apply pw_below_drewN | apply below_drew1) | exact HB.out)))); have n1_ := Aside0.mk (below_step (by repeat (first | (with_reducible first | exact HB.out | apply below_alloc | apply pw_below_drewN | apply below_drew1) | exact HB.out)) hb); clear HB; have HO324 := n0_; have HB := n1_; clear n0_ n1_; (try clear hb); (try clear hb2); (try clear hk); (try clear hi); (try clear ho0)))
          repeat (go_quiet (first | (go_at_call 16; (with_reducible refine (infix_Follow.calls _ _ l0 a1 a2 t321 false _ ?side1 ?side2 A10.out).mono ?_); (case side1 => repeat (first | exact (Kd.C_below HR0.out HB.out) | (with_reducible refine Kd.C_alloc ?_ _) | (with_reducible refine Kd.C_drewN ?_ _) | (with_reducible refine Kd.C_drew ?_))); (case side2 => exact HC0.out); rintro e w40 ⟨v323, rfl, ho0, hb⟩; have n0_ := Aside0.mk (Kd.R_lower ho0 (below_size (by repeat (first | (with_reducible first | exact HB.out | apply below_alloc | apply pw_below_drewN | apply below_drew1) | exact HB.out)))); have n1_ := Aside0.mk (below_step (by repeat (first | (with_reducible first | exact HB.out | apply below_alloc | apply pw_below_drewN | apply below_drew1) | exact HB.out)) hb); clear HB; have HO324 := n0_; have HB := n1_; clear n0_ n1_; (try clear hb); (try clear hb2); (try clear hk); (try clear hi); (try clear ho0))); try go_wp2_with (first | (go_at_call 16; (with_reducible refine (infix_Follow.calls _ _ l0 a1 a2 t321 false _ ?side1 ?side2 A10.out).mono ?_); (case side1 => repeat (first | exact (Kd.C_below HR0.out HB.out) | (with_reducible refine Kd.C_alloc ?_ _) | (with_reducible refine Kd.C_drewN ?_ _) | (with_reducible refine Kd.C_drew ?_))); (case side2 => exact HC0.out); rintro e w40 ⟨v323, rfl, ho0, hb⟩; have n0_ := Aside0.mk (Kd.R_lower ho0 (below_size (by repeat (first | (with_reducible first | exact HB.out | apply below_alloc | apply pw_below_drewN | apply below_drew1) | exact HB.out)))); have n1_ := Aside0.mk (below_step (by repeat (first | (with_reducible first | exact HB.out | apply below_alloc | apply pw_below_drewN | apply below_drew1) | exact HB.out)) hb); clear HB; have HO324 := n0_; have HB := n1_; clear n0_ n1_; (try clear hb); (try clear hb2); (try clear hk); (try clear hi); (try clear ho0))))
          go_ret
          exact ⟨by first | rfl | (simp [errW_none, errW_some] <;> rfl) | (simp [*, errW_none, errW_some] <;> rfl), by repeat (first | (with_reducible first | exact HB.out | apply below_alloc | apply pw_below_drewN | apply below_drew1) | exact HB.out)⟩

/-- THE ONE PURE STATEMENT of stepladderlaw16_InfixShort: yours. -/
def stepladderlaw16_InfixShort.Pure : Prop := ∀ (l0 : List Int) (a1 : Int) (a2 : Int) (a3 : Int), l0.length ≤ maxLen → l0.length * 8 ≤ 140737488351232 → (∀ x ∈ l0, (Lit.int .i64 x).wf = true) → (Lit.int .i64 a1).wf = true → (Lit.int .i64 a2).wf = true → (Lit.int .i64 a3).wf = true → ∃ k, stepladderlaw16_InfixShort.f k l0 a1 a2 a3 = some true
theorem stepladderlaw16_InfixShort.walk (P : stepladderlaw16_InfixShort.Pure) (a0 : Option Addr) (len0 cap0 : Nat) (z0 : List Int) (a1 : Int) (a2 : Int) (a3 : Int) (w : World) (w0 : (a0 = none ∧ len0 = 0 ∧ cap0 = 0 ∧ z0 = []) ∨ ∃ x, a0 = some x ∧ len0 ≤ cap0 ∧ cap0 ≤ maxLen ∧ z0.length = cap0 ∧ (∀ i, i < z0.length → w.cell? (x.add i) = some (.int .i64 (z0.getD i 0))) ∧ ∀ n ∈ z0, (Lit.int .i64 n).wf = true) (y0 : len0 * 8 ≤ 140737488351232) (w1 : (Lit.int .i64 a1).wf = true) (w2 : (Lit.int .i64 a2).wf = true) (w3 : (Lit.int .i64 a3).wf = true) :
    Calls Try.prog 8 #[.slice a0 len0 cap0, .int .i64 a1, .int .i64 a2, .int .i64 a3] w fun e w' => e = .returned (.bool true) ∧ Below w.heap.size w w' := by
  obtain ⟨l0, rfl, hr0, hm0, hw0, hc0⟩ := ReadsInt.ofRowC w0
  obtain ⟨k, h⟩ := P l0 a1 a2 a3 hm0 y0 hw0 w1 w2 w3
  refine (stepladderlaw16_InfixShort.calls k _ _ l0 a1 a2 a3 true w (Kd.C_of_reads (d := (0 : Int)) (h1 := fun _ => rfl) hr0) hc0 h).mono ?_
  rintro e w' ⟨rfl, hd⟩
  exact ⟨rfl, hd⟩

end Go.Proofs.Ytgjkjndfnjabeaa.X
