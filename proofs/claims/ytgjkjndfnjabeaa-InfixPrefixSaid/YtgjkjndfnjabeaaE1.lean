/- super.May and what it calls: each comes to its plain function. -/
import Derived.Test.YtgjkjndfnjabeaaX0
import Derived.Test.YtgjkjndfnjabeaaS
namespace Go.Proofs.Ytgjkjndfnjabeaa.X
open Go.RowKit Go.Proofs.YtgjkjndfnjabeaaW.PrintWords Go.Proofs.YtgjkjndfnjabeaaW.PrintLast Go.Proofs.YtgjkjndfnjabeaaW.PrintMore

theorem E.odd_calls (n : Int) (w : World) : Calls Try.prog 43 #[.int .i64 n] w fun e w' => e = .returned (.bool (S.oddB n)) ∧ w = w' := by
  unfold S.oddB
  by_cases h1 : n < 0
  · have b1 : decide (n < 0) = true := by simpa using h1
    have hd : decide (n < 0 ∨ 31 < n) = true := by simp [h1]
    rw [hd]; clear hd
    go_enter Try.func43, Try.ntmps43
    go_wp2
    go_ret
    exact ⟨rfl, rfl⟩
  · have b1 : decide (n < 0) = false := by simpa using h1
    have hd : decide (n < 0 ∨ 31 < n) = decide (31 < n) := by simp [h1]
    rw [hd]; clear hd
    go_enter Try.func43, Try.ntmps43
    go_wp2
    go_ret
    exact ⟨rfl, rfl⟩

/-- What slices.IndexFunc hands back. -/
def E.Idx (l : List Int) (w : World) (e : Ending) (w' : World) : Prop := ∃ x : Int, -1 ≤ x ∧ decide (0 ≤ x) = l.any S.oddB ∧ e = .returned (.int .i64 x) ∧ Drawn0 w w'

theorem E.any_hit {l : List Int} {k : Nat} (hk : k < l.length) (h : S.oddB (rd l k) = true) : l.any S.oddB = true := by
  rw [List.any_eq_true]
  refine ⟨l[k], List.getElem_mem hk, ?_⟩
  have : rd l k = l[k] := by simp [rd, List.getElem?_eq_getElem hk, List.getD_eq_getElem?_getD]
  rw [← this]; exact h
theorem E.any_miss {l : List Int} (h : ∀ j : Nat, j < l.length → S.oddB (rd l j) = false) : l.any S.oddB = false := by
  rw [List.any_eq_false]
  intro x hx
  obtain ⟨j, hj, rfl⟩ := List.getElem_of_mem hx
  have : rd l j = l[j] := by simp [rd, List.getElem?_eq_getElem hj, List.getD_eq_getElem?_getD]
  rw [← this, h j hj]; simp

set_option maxHeartbeats 1000000 in
theorem E.index_calls (A0 : Option Addr) (c0 : Nat) (l0 : List Int) (w : World) (hr0 : Kd.C (Kd.int .i64) w A0 l0.length l0) :
    Calls Try.prog 52 #[.slice A0 l0.length c0, .func (.func 43) #[] #[]] w (E.Idx l0 w) := by
  have hmax := Kd.C_max hr0
  have HR0 := Aside0.mk hr0
  clear hr0
  go_enter Try.func52, Try.ntmps52
  go_wp2
  go_loopg [5, 8] l0.length (fun kq _ v8 w' => ∃ k : Nat, v8 = .int .i64 k ∧ k ≤ l0.length ∧ l0.length - k ≤ kq ∧ Aside0 (∀ j : Nat, j < k → S.oddB (rd l0 j) = false) ∧ Drawn0 w w')
  case atStart => exact ⟨0, rfl, Nat.zero_le _, by omega, ⟨fun j hj => absurd hj (Nat.not_lt_zero _)⟩, Drawn0.refl _⟩
  case round =>
    obtain ⟨k, rfl, hk, hg, HA, ⟨m1, rfl⟩⟩ := hrel
    by_cases hlt : k < l0.length
    · have hltz : (k : Int) < (l0.length : Int) := by omega
      have p1 : 0 ≤ (k : Int) := by omega
      have cb : decide ((k : Int) < (l0.length : Int)) = true := by simpa using hltz
      obtain ⟨ad, e1, hx⟩ := Kd.at_int HR0.out k p1 hltz
      cases e1
      rw [Int.toNat_natCast] at hx
      generalize hy : rd l0 k = y at hx
      have HY := Aside0.mk hy
      clear hy
      cases hq : S.oddB y with
      | true =>
        have HQ := Aside0.mk hq
        clear hq
        go_wp2_with (go_at_call 43; refine (E.odd_calls _ _).mono ?_; rw [HQ.out]; rintro e w' ⟨rfl, rfl⟩)
        go_ret
        exact ⟨k, by omega, by rw [E.any_hit hlt (by rw [HY.out]; exact HQ.out)]; simp, rfl, by repeat (first | exact Drawn0.refl _ | apply Drawn0.step)⟩
      | false =>
        have HQ := Aside0.mk hq
        clear hq
        go_wp2_with (go_at_call 43; refine (E.odd_calls _ _).mono ?_; rw [HQ.out]; rintro e w' ⟨rfl, rfl⟩)
        go_roundg (l0.length - (k + 1))
        case measure => omega
        case rel =>
          refine ⟨k + 1, by go_num, by omega, by omega, ⟨fun j hj => ?_⟩, by repeat (first | exact Drawn0.refl _ | apply Drawn0.step)⟩
          by_cases e : j = k
          · subst e
            rw [HY.out]; exact HQ.out
          · exact HA.out j (by omega)
    · have hltz : ¬ (k : Int) < (l0.length : Int) := by omega
      have cb : decide ((k : Int) < (l0.length : Int)) = false := by simpa using hltz
      obtain rfl : k = l0.length := by omega
      go_wp2
      go_ret
      exact ⟨-1, by omega, by rw [E.any_miss HA.out]; simp, rfl, by repeat (first | exact Drawn0.refl _ | apply Drawn0.step)⟩

theorem E.contains_calls (A0 : Option Addr) (c0 : Nat) (l0 : List Int) (w : World) (hr0 : Kd.C (Kd.int .i64) w A0 l0.length l0) :
    Calls Try.prog 44 #[.slice A0 l0.length c0, .func (.func 43) #[] #[]] w fun e w' => e = .returned (.bool (l0.any S.oddB)) ∧ Drawn0 w w' := by
  have HR0 := Aside0.mk hr0
  clear hr0
  go_enter Try.func44, Try.ntmps44
  go_wp2_with (go_at_call 52; refine (E.index_calls _ _ _ _ HR0.out).mono ?_; rintro e w' ⟨x, hx1, hx2, rfl, hd⟩; have HX := Aside0.mk hx2; clear hx2)
  go_ret
  exact ⟨by rw [HX.out]; rfl, hd⟩

/-- super.May -/
theorem E.may_calls (A0 : Option Addr) (c0 : Nat) (l0 : List Int) (w : World) (hr0 : Kd.C (Kd.int .i64) w A0 l0.length l0) (_hc0 : l0.length ≤ c0) :
    Calls Try.prog 25 #[.slice A0 l0.length c0] w fun e w' => e = .returned (.bool (S.mayB l0)) ∧ Drawn0 w w' := by
  have HR0 := Aside0.mk hr0
  clear hr0
  unfold S.mayB
  by_cases h1 : 0 < l0.length
  · have b1 : decide ((0 : Int) < (l0.length : Int)) = true := by rw [decide_eq_true_eq]; omega
    have b1' : decide (0 < l0.length) = true := by rw [decide_eq_true_eq]; omega
    by_cases h2 : l0.length ≤ 200
    · have b2 : decide ((l0.length : Int) ≤ 200) = true := by rw [decide_eq_true_eq]; omega
      have b2' : decide (l0.length ≤ 200) = true := by rw [decide_eq_true_eq]; omega
      obtain ⟨ad, e1, hx⟩ := Kd.at_int HR0.out 0 (by omega) (by omega)
      cases e1
      rw [Int.toNat_zero, Addr.add_zero'] at hx
      by_cases h3 : rd l0 0 = 31
      · rw [b1', b2', show decide (rd l0 0 = 31) = true from by rw [decide_eq_true_eq]; exact h3, Bool.true_and, Bool.true_and, Bool.true_and]
        have b3 : (rd l0 0 == 31) = true := beq_iff_eq.mpr h3
        clear b1' b2' h3
        go_enter Try.func25, Try.ntmps25
        go_wp2_with (go_at_call 44; refine (E.contains_calls _ _ _ _ HR0.out).mono ?_; rintro e w' ⟨rfl, ⟨m, rfl⟩⟩)
        go_ret
        exact ⟨rfl, ⟨_, rfl⟩⟩
      · rw [b1', b2', show decide (rd l0 0 = 31) = false from by rw [decide_eq_false_iff_not]; exact h3, Bool.true_and, Bool.true_and, Bool.false_and]
        have b3 : (rd l0 0 == 31) = false := beq_eq_false_iff_ne.mpr h3
        clear b1' b2' h3
        go_enter Try.func25, Try.ntmps25
        go_wp2
        go_ret
        exact ⟨rfl, Drawn0.refl _⟩
    · have b2 : decide ((l0.length : Int) ≤ 200) = false := by rw [decide_eq_false_iff_not]; omega
      have b2' : decide (l0.length ≤ 200) = false := by rw [decide_eq_false_iff_not]; omega
      rw [b1', b2', Bool.true_and, Bool.false_and]
      clear b1' b2'
      go_enter Try.func25, Try.ntmps25
      go_wp2
      go_ret
      exact ⟨rfl, Drawn0.refl _⟩
  · have b1 : decide ((0 : Int) < (l0.length : Int)) = false := by rw [decide_eq_false_iff_not]; omega
    have b1' : decide (0 < l0.length) = false := by rw [decide_eq_false_iff_not]; omega
    rw [b1', Bool.false_and]
    clear b1'
    go_enter Try.func25, Try.ntmps25
    go_wp2
    go_ret
    exact ⟨rfl, Drawn0.refl _⟩

end Go.Proofs.Ytgjkjndfnjabeaa.X
