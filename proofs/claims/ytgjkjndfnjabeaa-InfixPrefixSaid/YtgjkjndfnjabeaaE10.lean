/- slices.Max. -/
import Derived.Test.YtgjkjndfnjabeaaX0
import Derived.Test.YtgjkjndfnjabeaaS2
import Derived.Test.YtgjkjndfnjabeaaS1
namespace Go.Proofs.Ytgjkjndfnjabeaa.X
open Go.RowKit Go.Proofs.YtgjkjndfnjabeaaW.PrintWords Go.Proofs.YtgjkjndfnjabeaaW.PrintLast Go.Proofs.YtgjkjndfnjabeaaW.PrintMore

theorem S.maxL_snoc {l : List Int} {k : Nat} (h0 : 0 < k) (hk : k < l.length) : S.maxL (l.take (k + 1)) = if S.maxL (l.take k) < rd l k then rd l k else S.maxL (l.take k) := by
  rw [rd_get hk]
  cases l with
  | nil => simp at hk
  | cons x t =>
    obtain ⟨k, rfl⟩ : ∃ m, k = m + 1 := ⟨k - 1, by omega⟩
    have hk' : k < t.length := by simpa using hk
    have e : (x :: t).take (k + 1 + 1) = x :: (t.take k ++ [t[k]]) := by rw [List.take_succ_cons, List.take_succ_eq_append_getElem hk']
    rw [e, List.take_succ_cons]
    show List.foldl _ x (t.take k ++ _) = _
    rw [List.foldl_append]
    rfl

set_option maxHeartbeats 1000000 in
theorem E.max_calls (A0 : Option Addr) (c0 : Nat) (l0 : List Int) (w : World) (hr0 : Kd.C (Kd.int .i64) w A0 l0.length l0) (_hc0 : l0.length ≤ c0) (h0 : 0 < l0.length) (h1 : l0.length ≤ 1000000) :
    Calls Try.prog 40 #[.slice A0 l0.length c0] w fun e w' => e = .returned (.int .i64 (S.maxL l0)) ∧ Drawn0 w w' := by
  have HR0 := Aside0.mk hr0
  have b1 : decide ((l0.length : Int) < 1) = false := by rw [decide_eq_false_iff_not]; omega
  obtain ⟨ad, e1, hx⟩ := Kd.at_int HR0.out 0 (by omega) (by omega)
  cases e1
  rw [Int.toNat_zero, Addr.add_zero'] at hx
  have e0 : S.maxL (l0.take 1) = rd l0 0 := by
    cases l0 with
    | nil => simp at h0
    | cons x t => rfl
  clear hr0
  go_enter Try.func40, Try.ntmps40
  go_wp2
  go_loopg [3, 4] l0.length (fun kq v3 v4 w' => ∃ k : Nat, v4 = .int .i64 k ∧ v3 = .int .i64 (S.maxL (l0.take k)) ∧ 1 ≤ k ∧ k ≤ l0.length ∧ l0.length - k ≤ kq ∧ Drawn0 w w')
  case atStart => exact ⟨1, rfl, by rw [e0], Nat.le_refl _, by omega, by omega, Drawn0.refl _⟩
  case round =>
    obtain ⟨k, rfl, rfl, hk0, hk, hg, ⟨m1, rfl⟩⟩ := hrel
    by_cases hlt : k < l0.length
    · have hltz : (k : Int) < (l0.length : Int) := by omega
      have p1 : 0 ≤ (k : Int) := by omega
      have cb : decide ((k : Int) < (l0.length : Int)) = true := by simpa using hltz
      obtain ⟨ad2, e2, hx2⟩ := Kd.at_int HR0.out k p1 hltz
      cases e2
      rw [Int.toNat_natCast] at hx2
      have hs := S.maxL_snoc hk0 hlt
      generalize rd l0 k = y at hx2 hs
      have hs_ := hs.symm
      clear hs
      go_wp2
      go_roundg (l0.length - (k + 1))
      case measure => omega
      case rel => exact ⟨k + 1, by go_num, rfl, by omega, by omega, by omega, by repeat (first | exact Drawn0.refl _ | apply Drawn0.step)⟩
    · have hltz : ¬ (k : Int) < (l0.length : Int) := by omega
      have cb : decide ((k : Int) < (l0.length : Int)) = false := by simpa using hltz
      obtain rfl : k = l0.length := by omega
      go_wp2
      go_ret
      exact ⟨rfl, by repeat (first | exact Drawn0.refl _ | apply Drawn0.step)⟩

end Go.Proofs.Ytgjkjndfnjabeaa.X
