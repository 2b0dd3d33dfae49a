import Derived.Test.YteekdggainficaaMB1
import Derived.Test.YteekdggainficaaMXstepladderref21Smooth
-- By this session's own program (wip/tools/xprint.py), over the kit's print. Not trusted: Lean checks it.
namespace Go.Proofs.Yteekdggainficaa.X
open Go.RowKit Go.Proofs.YteekdggainficaaW.PrintWords Go.Proofs.YteekdggainficaaW.PrintLast Go.Proofs.YteekdggainficaaW.PrintMore
attribute [local go_sem] max2_int min2_int max_two min_two max_three min_three max_four min_four   -- for this text's walks alone
set_option linter.unusedVariables false
set_option linter.unusedSimpArgs false

/-! ### stepladderref21_Thorny: function 19 -/
def stepladderref21_Thorny.l0 : Nat → List (S36) → List Int → List Bool → Int → Option (List Int)
  | 0, _, _, _, _ => none
  | k + 1, x0, x3, x4, x5 => if x5 < (x4.length : Int) then (if 0 ≤ x5 then (if x5 < (x0.length : Int) then (if (rd_T36 x0 x5).f0 = true then (if rdOf false x4 x5 = true then (stepladderref21_Thorny.l0 k x0 x3 x4 (wrap64 (x5 + 1))) else (if x3.length < 17592186044416 then (stepladderref21_Thorny.l0 k x0 (x3 ++ [x5]) x4 (wrap64 (x5 + 1))) else (none))) else (stepladderref21_Thorny.l0 k x0 x3 x4 (wrap64 (x5 + 1)))) else (none)) else (none)) else (some x3)
def stepladderref21_Thorny.f (k : Nat) (l0 : List (S36)) : Option (List Int) := (stepladderref21_Smooth.f k l0).bind fun t193 => (stepladderref21_Thorny.l0 k l0 ([] : List Int) t193 0)
theorem stepladderref21_Thorny.mono_l : ∀ k, (∀ y0 y1 y2 y3, LeO (stepladderref21_Thorny.l0 k y0 y1 y2 y3) (stepladderref21_Thorny.l0 (k + 1) y0 y1 y2 y3))
  | 0 => fun _ _ _ _ r h => by simp [stepladderref21_Thorny.l0] at h
  | k + 1 => by
    have ih0 := stepladderref21_Thorny.mono_l k
    · intro y0 y1 y2 y3
      unfold stepladderref21_Thorny.l0
      repeat' first
      | (with_reducible exact ih0 _ _ _ _)
      | (with_reducible exact stepladderref21_Smooth.mono _ _)
      | (with_reducible exact LeO.refl _)
      | (with_reducible exact LeO.none _)
      | (with_reducible refine LeO.ite ?_ ?_)
      | (with_reducible refine LeO.bind ?_ (fun _ => ?_))
      | exact ih0 _ _ _ _
      | exact stepladderref21_Smooth.mono _ _
      | exact LeO.none _
      | refine LeO.ite ?_ ?_
      | refine LeO.bind ?_ (fun _ => ?_)
theorem stepladderref21_Thorny.mono : ∀ a0 k, LeO (stepladderref21_Thorny.f k a0) (stepladderref21_Thorny.f (k + 1) a0) := by
  intro a0 k
  have ih0 := stepladderref21_Thorny.mono_l k
  unfold stepladderref21_Thorny.f
  repeat' first
      | (with_reducible exact ih0 _ _ _ _)
      | (with_reducible exact stepladderref21_Smooth.mono _ _)
      | (with_reducible exact LeO.refl _)
      | (with_reducible exact LeO.none _)
      | (with_reducible refine LeO.ite ?_ ?_)
      | (with_reducible refine LeO.bind ?_ (fun _ => ?_))
      | exact ih0 _ _ _ _
      | exact stepladderref21_Smooth.mono _ _
      | exact LeO.none _
      | refine LeO.ite ?_ ?_
      | refine LeO.bind ?_ (fun _ => ?_)
set_option maxHeartbeats 8000000 in
set_option maxRecDepth 100000 in
theorem stepladderref21_Thorny.calls (k : Nat) (A0 : Option Addr) (c0 : Nat) (l0 : List (S36)) (r : List Int) (w : World) (hr0 : Kd.C k36 w A0 l0.length l0) (hc0 : l0.length ≤ c0) (h : stepladderref21_Thorny.f k l0 = some r) :
    Calls Try.prog 19 #[.slice A0 l0.length c0] w fun e w' => ∃ v0_ : Value, e = .returned (v0_) ∧ Kd.R (Kd.int .i64) 3 w' w.heap.size (fun _ => True) v0_ r ∧ Below w.heap.size w w' := by
  have HR0 := Aside0.mk hr0
  have HC0 := Aside0.mk hc0
  clear hr0 hc0
  have HB := Aside0.mk (Below.refl w.heap.size w)
  have H : ((stepladderref21_Smooth.f k l0).bind fun t193 => (stepladderref21_Thorny.l0 k l0 ([] : List Int) t193 0)) = some r := h
  clear h
  replace H := Option.bind_eq_some_iff.mp H
  obtain ⟨t193, A20, H⟩ := H
  replace H : (stepladderref21_Thorny.l0 k l0 ([] : List Int) t193 0) = some r := H
  have A2 := Aside0.mk A20
  clear A20
  have H' := Aside0.mk H
  clear H
  go_enter Try.func19, Try.ntmps19
  go_wp2_with (first | ((with_reducible refine gate_callee (f := 17) rfl ?_); refine goesL_ (some 7) rfl rfl Try.func17 (by kernel_rfl) rfl #[.slice A0 l0.length c0] rfl (by (try simp only [List.map_toArray, List.map_cons, List.map_nil]); first | done | rfl | (simp only [List.length_drop, List.length_take]; rfl)) ?_; (with_reducible refine (stepladderref21_Smooth.calls k _ _ l0 t193 _ ?side1 ?side2 A2.out).mono ?_); (case side1 => repeat (first | exact HR0.out | (with_reducible refine Kd.C_alloc ?_ _) | (with_reducible refine Kd.C_drewN ?_ _) | (with_reducible refine Kd.C_drew ?_))); (case side2 => exact HC0.out); rintro e w3 ⟨v194, rfl, ho0, hb⟩; refine ⟨_, rfl, ?_⟩; have n0_ := Aside0.mk (Kd.R_lower ho0 (below_size (by repeat (first | (with_reducible first | exact HB.out | apply below_alloc | apply pw_below_drewN | apply below_drew1) | exact HB.out)))); have n1_ := Aside0.mk (below_step (by repeat (first | (with_reducible first | exact HB.out | apply below_alloc | apply pw_below_drewN | apply below_drew1) | exact HB.out)) hb); clear HB; have HO195 := n0_; have HB := n1_; clear n0_ n1_; (try clear hb); (try clear hb2); (try clear hk); (try clear hi); (try clear ho0)))
  go_loopg [3, 5] k (fun kq v3 v5 w' => ∃ (x3_1 : List Int) (x5_1 : Int), v5 = .int .i64 x5_1 ∧ Aside0 (stepladderref21_Thorny.l0 kq l0 x3_1 t193 x5_1 = some r) ∧ Aside0 (kq ≤ k) ∧ Aside0 (Kd.R (Kd.int .i64) 3 w' w.heap.size (fun _ => True) v3 x3_1) ∧ Aside0 (Kd.R Kd.bool 4 w' w.heap.size (fun _ => True) v194 t193) ∧ Aside0 (Below w.heap.size w w'))
  case atStart => exact ⟨(([] : List Int)), (0), (by first | rfl | (simp; done) | (simp [*]; done)), H', ⟨Nat.le_refl _⟩, ⟨by first | exact Kd.R_nil _ _ _ _ _ | exact Kd.N_nil _ _ _ _ _ | exact Kd.V_nil _ _ _ _ _ | exact Kd.Q_nil _ _ _ _ _ | exact Kd.S_nil _ _ _ _ _⟩, ⟨by (with_reducible repeat (first | apply Kd.R_alloc | apply Kd.R_drewN | apply Kd.R_drew)); exact HO195.out⟩, ⟨by repeat (first | (with_reducible first | exact HB.out | apply below_alloc | apply pw_below_drewN | apply below_drew1) | exact HB.out)⟩⟩
  case round =>
    clear H'
    try clear c1
    try clear p2
    obtain ⟨x3_1, x5_1, rfl, HA, HK1, HO_3, HO_4, HB⟩ := hrel
    cases gk with
    | zero => exact absurd HA.out (by simp [stepladderref21_Thorny.l0])
    | succ k1 =>
      have H := HA.out
      clear HA
      simp only [stepladderref21_Thorny.l0] at H
      by_cases c4 : x5_1 < (t193.length : Int)
      · rw [if_pos c4] at H
        have c4b0 : decide (x5_1 < (t193.length : Int)) = true := decide_eq_true c4
        clear c4
        by_cases c5 : 0 ≤ x5_1
        · rw [if_pos c5] at H
          have c5b0 : decide (0 ≤ x5_1) = true := decide_eq_true c5
          clear c5
          by_cases c6 : x5_1 < (l0.length : Int)
          · rw [if_pos c6] at H
            have c6b0 : decide (x5_1 < (l0.length : Int)) = true := decide_eq_true c6
            clear c6
            obtain ⟨bq7, hbq7⟩ : ∃ b_ : Bool, b_ = ((rd_T36 l0 x5_1).f0) := ⟨_, rfl⟩
            replace H : (if bq7 = true then (if rdOf false t193 x5_1 = true then (stepladderref21_Thorny.l0 k1 l0 x3_1 t193 (wrap64 (x5_1 + 1))) else (if x3_1.length < 17592186044416 then (stepladderref21_Thorny.l0 k1 l0 (x3_1 ++ [x5_1]) t193 (wrap64 (x5_1 + 1))) else (none))) else (stepladderref21_Thorny.l0 k1 l0 x3_1 t193 (wrap64 (x5_1 + 1)))) = some r := by rw [← hbq7] at H; exact H
            have Nbq7 := Aside0.mk hbq7
            clear hbq7
            by_cases c8 : bq7 = true
            · subst c8
              have H1 : (if rdOf false t193 x5_1 = true then (stepladderref21_Thorny.l0 k1 l0 x3_1 t193 (wrap64 (x5_1 + 1))) else (if x3_1.length < 17592186044416 then (stepladderref21_Thorny.l0 k1 l0 (x3_1 ++ [x5_1]) t193 (wrap64 (x5_1 + 1))) else (none))) = some r := by rw [if_pos rfl] at H; exact H
              clear H
              have H := H1
              clear H1
              obtain ⟨bq9, hbq9⟩ : ∃ b_ : Bool, b_ = (rdOf false t193 x5_1) := ⟨_, rfl⟩
              replace H : (if bq9 = true then (stepladderref21_Thorny.l0 k1 l0 x3_1 t193 (wrap64 (x5_1 + 1))) else (if x3_1.length < 17592186044416 then (stepladderref21_Thorny.l0 k1 l0 (x3_1 ++ [x5_1]) t193 (wrap64 (x5_1 + 1))) else (none))) = some r := by rw [← hbq9] at H; exact H
              have Nbq9 := Aside0.mk hbq9
              clear hbq9
              by_cases c10 : bq9 = true
              · subst c10
                have H1 : (stepladderref21_Thorny.l0 k1 l0 x3_1 t193 (wrap64 (x5_1 + 1))) = some r := by rw [if_pos rfl] at H; exact H
                clear H
                have H := H1
                clear H1
                have H' := Aside0.mk H
                clear H
                obtain ⟨Ao11, co11, eo11⟩ := Kd.R_slice HO_4.out
                subst eo11
                have p196 : 0 ≤ (x5_1 : Int) := of_decide_eq_true (by first | (with_reducible assumption) | assumption)
                have q196 : x5_1 < (l0.length : Int) := of_decide_eq_true (by first | (with_reducible assumption) | assumption)
                obtain ⟨ad196, A196_2, c196_2, e196, hx196_0, hx196_1, hx196_2, hl196_2, hi196_2⟩ := at_T36 HR0.out x5_1 p196 q196
                (try rw [← Nbq7.out] at hx196_0)
                (try rw [← Nbq9.out] at hx196_0)
                cases e196
                replace hx196_0 := (HB.out.cell (World.block_lt_of_cell? w _ hx196_0)).trans hx196_0
                replace hx196_1 := (HB.out.cell (World.block_lt_of_cell? w _ hx196_1)).trans hx196_1
                replace hx196_2 := (HB.out.cell (World.block_lt_of_cell? w _ hx196_2)).trans hx196_2
                have HR196_2 := Aside0.mk hi196_2
                have HC196_2 := Aside0.mk hl196_2
                clear hi196_2 hl196_2
                replace p196 := eq_true p196
                replace q196 := eq_true q196
                have p197 : 0 ≤ (x5_1 : Int) := of_decide_eq_true (by first | (with_reducible assumption) | assumption)
                have q197 : x5_1 < (t193.length : Int) := of_decide_eq_true (by first | (with_reducible assumption) | assumption)
                obtain ⟨ad197, e197, hx197_0⟩ := Kd.at_bool (Kd.R_reads' HO_4.out).2.2 x5_1 p197 q197
                (try rw [← Nbq7.out] at hx197_0)
                (try rw [← Nbq9.out] at hx197_0)
                cases e197
                replace p197 := eq_true p197
                replace q197 := eq_true q197
                go_wp2
                go_roundg k1
                case measure => have := HK1.out; omega
                case rel => exact ⟨(x3_1), (wrap64 (x5_1 + 1)), (by first | rfl | (simp; done) | (simp [*]; done)), H', ⟨by have := HK1.out; omega⟩, ⟨by (with_reducible repeat (first | apply Kd.R_alloc | apply Kd.R_drewN | apply Kd.R_drew)); exact HO_3.out⟩, ⟨by (with_reducible repeat (first | apply Kd.R_alloc | apply Kd.R_drewN | apply Kd.R_drew)); exact HO_4.out⟩, ⟨by repeat (first | (with_reducible first | exact HB.out | apply below_alloc | apply pw_below_drewN | apply below_drew1) | exact HB.out)⟩⟩
              · replace c10 := Bool.eq_false_iff.mpr c10
                subst c10
                have H1 : (if x3_1.length < 17592186044416 then (stepladderref21_Thorny.l0 k1 l0 (x3_1 ++ [x5_1]) t193 (wrap64 (x5_1 + 1))) else (none)) = some r := by rw [if_neg (show ¬ (false = true) by decide)] at H; exact H
                clear H
                have H := H1
                clear H1
                by_cases c12 : x3_1.length < 17592186044416
                · rw [if_pos c12] at H
                  have LMc12 := Aside0.mk c12
                  clear c12
                  obtain ⟨y198, hy198⟩ : ∃ y_ : List Int, y_ = (x3_1 ++ [x5_1]) := ⟨_, rfl⟩
                  replace H : (stepladderref21_Thorny.l0 k1 l0 y198 t193 (wrap64 (x5_1 + 1))) = some r := by first | (rw [hy198]; with_reducible exact H) | (have H2_ := (Option.bind_some _ _).symm.trans H; rw [hy198]; with_reducible exact H2_) | (have H2_ := (Option.bind_some _ _).symm.trans H; with_reducible exact H2_) | with_reducible exact H | (rw [hy198]; exact H) | exact H
                  have Ny198 := Aside0.mk hy198
                  clear hy198
                  have H' := Aside0.mk H
                  clear H
                  obtain ⟨Ao13, co13, eo13⟩ := Kd.R_slice HO_4.out
                  subst eo13
                  have p196 : 0 ≤ (x5_1 : Int) := of_decide_eq_true (by first | (with_reducible assumption) | assumption)
                  have q196 : x5_1 < (l0.length : Int) := of_decide_eq_true (by first | (with_reducible assumption) | assumption)
                  obtain ⟨ad196, A196_2, c196_2, e196, hx196_0, hx196_1, hx196_2, hl196_2, hi196_2⟩ := at_T36 HR0.out x5_1 p196 q196
                  (try rw [← Nbq7.out] at hx196_0)
                  (try rw [← Nbq9.out] at hx196_0)
                  cases e196
                  replace hx196_0 := (HB.out.cell (World.block_lt_of_cell? w _ hx196_0)).trans hx196_0
                  replace hx196_1 := (HB.out.cell (World.block_lt_of_cell? w _ hx196_1)).trans hx196_1
                  replace hx196_2 := (HB.out.cell (World.block_lt_of_cell? w _ hx196_2)).trans hx196_2
                  have HR196_2 := Aside0.mk hi196_2
                  have HC196_2 := Aside0.mk hl196_2
                  clear hi196_2 hl196_2
                  replace p196 := eq_true p196
                  replace q196 := eq_true q196
                  have p197 : 0 ≤ (x5_1 : Int) := of_decide_eq_true (by first | (with_reducible assumption) | assumption)
                  have q197 : x5_1 < (t193.length : Int) := of_decide_eq_true (by first | (with_reducible assumption) | assumption)
                  obtain ⟨ad197, e197, hx197_0⟩ := Kd.at_bool (Kd.R_reads' HO_4.out).2.2 x5_1 p197 q197
                  (try rw [← Nbq7.out] at hx197_0)
                  (try rw [← Nbq9.out] at hx197_0)
                  cases e197
                  replace p197 := eq_true p197
                  replace q197 := eq_true q197
                  go_wp2_with (first | ((with_reducible refine gate_builtin (b := .append) (xs := #[.tmp 26, .tmp 28]) rfl ?_); at_builtin; refine Kd.R_append (Kd.int .i64) (w0 := w) w.heap.size rfl (.tmp 26) (.tmp 28) 26 3 (.int .i64 0) 8 rfl Try.underlying26 info3 rfl (by decide) (by omega) u3 x3_1 x5_1 [.int .i64 x5_1] (fun _ => True) (fun _ => False) rfl rfl ?aP (fun _ hk => hk.elim) ?aF ?aO ?aB ?aS ?aL ?_; (case aP => exact rfl); (case aB => exact (by repeat (first | (with_reducible first | exact HB.out | apply below_alloc | apply pw_below_drewN | apply below_drew1) | exact HB.out))); (case aF => exact (fun _ _ => trivial)); (case aO => exact (by (with_reducible repeat (first | apply Kd.R_alloc | apply Kd.R_drewN | apply Kd.R_drew)); exact HO_3.out)); (case aS => exact (below_size (by repeat (first | (with_reducible first | exact HB.out | apply below_alloc | apply pw_below_drewN | apply below_drew1) | exact HB.out)))); (case aL => have := LMc12.out; omega); intro v199 w14 ho hb hg hat; rw [← Ny198.out] at ho; have n0_ := Aside0.mk (Kd.R_over' (by (with_reducible repeat (first | apply Kd.R_alloc | apply Kd.R_drewN | apply Kd.R_drew)); exact HO_4.out) (Kd.R_typed (by (with_reducible repeat (first | apply Kd.R_alloc | apply Kd.R_drewN | apply Kd.R_drew)); exact HO_3.out)) (by decide) hg); have n1_ := Aside0.mk (hb); have n2_ := Aside0.mk (ho); clear HO_4; clear HB; clear HO_3; have HO_4 := n0_; have HB := n1_; have HO200 := n2_; clear n0_ n1_ n2_; clear ho hb hg hat))
                  go_roundg k1
                  case measure => have := HK1.out; omega
                  case rel => exact ⟨(y198), (wrap64 (x5_1 + 1)), (by first | rfl | (simp; done) | (simp [*]; done)), H', ⟨by have := HK1.out; omega⟩, ⟨by (with_reducible repeat (first | apply Kd.R_alloc | apply Kd.R_drewN | apply Kd.R_drew)); exact HO200.out⟩, ⟨by (with_reducible repeat (first | apply Kd.R_alloc | apply Kd.R_drewN | apply Kd.R_drew)); exact HO_4.out⟩, ⟨by repeat (first | (with_reducible first | exact HB.out | apply below_alloc | apply pw_below_drewN | apply below_drew1) | exact HB.out)⟩⟩
                · rw [if_neg c12] at H
                  exact absurd H (by simp)
            · replace c8 := Bool.eq_false_iff.mpr c8
              subst c8
              have H1 : (stepladderref21_Thorny.l0 k1 l0 x3_1 t193 (wrap64 (x5_1 + 1))) = some r := by rw [if_neg (show ¬ (false = true) by decide)] at H; exact H
              clear H
              have H := H1
              clear H1
              have H' := Aside0.mk H
              clear H
              obtain ⟨Ao15, co15, eo15⟩ := Kd.R_slice HO_4.out
              subst eo15
              have p196 : 0 ≤ (x5_1 : Int) := of_decide_eq_true (by first | (with_reducible assumption) | assumption)
              have q196 : x5_1 < (l0.length : Int) := of_decide_eq_true (by first | (with_reducible assumption) | assumption)
              obtain ⟨ad196, A196_2, c196_2, e196, hx196_0, hx196_1, hx196_2, hl196_2, hi196_2⟩ := at_T36 HR0.out x5_1 p196 q196
              (try rw [← Nbq7.out] at hx196_0)
              cases e196
              replace hx196_0 := (HB.out.cell (World.block_lt_of_cell? w _ hx196_0)).trans hx196_0
              replace hx196_1 := (HB.out.cell (World.block_lt_of_cell? w _ hx196_1)).trans hx196_1
              replace hx196_2 := (HB.out.cell (World.block_lt_of_cell? w _ hx196_2)).trans hx196_2
              have HR196_2 := Aside0.mk hi196_2
              have HC196_2 := Aside0.mk hl196_2
              clear hi196_2 hl196_2
              replace p196 := eq_true p196
              replace q196 := eq_true q196
              go_wp2
              go_roundg k1
              case measure => have := HK1.out; omega
              case rel => exact ⟨(x3_1), (wrap64 (x5_1 + 1)), (by first | rfl | (simp; done) | (simp [*]; done)), H', ⟨by have := HK1.out; omega⟩, ⟨by (with_reducible repeat (first | apply Kd.R_alloc | apply Kd.R_drewN | apply Kd.R_drew)); exact HO_3.out⟩, ⟨by (with_reducible repeat (first | apply Kd.R_alloc | apply Kd.R_drewN | apply Kd.R_drew)); exact HO_4.out⟩, ⟨by repeat (first | (with_reducible first | exact HB.out | apply below_alloc | apply pw_below_drewN | apply below_drew1) | exact HB.out)⟩⟩
          · rw [if_neg c6] at H
            exact absurd H (by simp)
        · rw [if_neg c5] at H
          exact absurd H (by simp)
      · rw [if_neg c4] at H
        have c4b0 : decide (x5_1 < (t193.length : Int)) = false := decide_eq_false c4
        clear c4
        obtain rfl := Option.some.inj H
        obtain ⟨Ao16, co16, eo16⟩ := Kd.R_slice HO_4.out
        subst eo16
        go_wp2
        go_ret
        exact ⟨_, by first | rfl | (simp [errW_none, errW_some] <;> rfl) | (simp [*, errW_none, errW_some] <;> rfl), by (with_reducible repeat (first | apply Kd.R_alloc | apply Kd.R_drewN | apply Kd.R_drew)); exact HO_3.out, by repeat (first | (with_reducible first | exact HB.out | apply below_alloc | apply pw_below_drewN | apply below_drew1) | exact HB.out)⟩

end Go.Proofs.Yteekdggainficaa.X
