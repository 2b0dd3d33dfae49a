/- What the statements of layer 14 lean on, as the print has them. -/
import Derived.Test.YtfbhgbnpppbiiaaPA
import Derived.Test.YtfbhgbnpppbiiaaXstepladderlaw14awake
import Derived.Test.YtfbhgbnpppbiiaaXstepladderlaw14has
namespace Go.Proofs.Ytfbhgbnpppbiiaa.X
open Go.RowKit Go.Proofs.YtfbhgbnpppbiiaaW.PrintWords

theorem P.has_l0 (l : List Int) (x : Int) (hl : l.length ≤ 1000000) (d : Nat) : ∀ (k i : Nat), l.length - i = d → i ≤ l.length → d < k → stepladderlaw14_has.l0 k l x i = some (decide (x ∈ l.drop i)) := by
  induction d with
  | zero =>
    intro k i hd hi hk
    obtain ⟨k, rfl⟩ : ∃ m, k = m + 1 := ⟨k - 1, by omega⟩
    simp only [stepladderlaw14_has.l0]
    rw [if_neg (by omega), List.drop_of_length_le (by omega)]
    rfl
  | succ d ih =>
    intro k i hd hi hk
    obtain ⟨k, rfl⟩ : ∃ m, k = m + 1 := ⟨k - 1, by omega⟩
    have h1 : i < l.length := by omega
    simp only [stepladderlaw14_has.l0]
    rw [if_pos (by omega), if_pos (by omega), rd_get h1, List.drop_eq_getElem_cons h1]
    by_cases h : l[i] = x
    · rw [if_pos h]
      congr 1
      symm
      rw [decide_eq_true_eq, h]
      exact List.mem_cons_self
    · rw [if_neg h, show wrap64 ((i : Int) + 1) = ((i + 1 : Nat) : Int) from by rw [E.wrap_id (by omega) (by omega)]; omega, ih k (i + 1) (by omega) (by omega) (by omega)]
      congr 1
      rw [decide_eq_decide, List.mem_cons]
      exact ⟨.inr, fun e => e.resolve_left (Ne.symm h)⟩
theorem P.has (l : List Int) (x : Int) (hl : l.length ≤ 1000000) (k : Nat) (hk : l.length + 1 < k) : stepladderlaw14_has.f k l x = some (decide (x ∈ l)) := by
  unfold stepladderlaw14_has.f
  rw [show (0 : Int) = ((0 : Nat) : Int) from rfl, P.has_l0 l x hl l.length k 0 (by omega) (by omega) (by omega)]
  simp

theorem P.awake14 (k : Nat) (hk : 10 < k) : stepladderlaw14_awake.f k = some true := by
  unfold stepladderlaw14_awake.f
  simp only [Option.bind_some]
  rw [P.prefix_f _ _ _ (by decide), show S.prefZ [31, 0, 1, 0, 0, 2, 0] 1 1 = ([0, 5], true) from by decide +kernel]
  simp only [Option.bind_some]
  rw [P.ints _ _ (by simp) k (by simp; omega)]
  simp only [Option.bind_some, if_true]
  rw [if_pos (by decide), P.may_f, show S.mayB [31, 0, 1, 0, 0, 2, 0] = true from by decide +kernel]
  simp only [Option.bind_some, if_true]
  rw [P.from_f _ _ _ _ (by decide) (by omega), show S.fromZ [31, 0, 1, 0, 0, 2, 0] 1 1 0 = 5 from by decide +kernel]
  simp only [Option.bind_some, if_true]
  rw [E.up_f _ _ _ _ (by simp) k (by simp; omega), show S.upZ [31, 0, 1, 0, 0, 2, 0] 0 7 1 = [0, 2, 5] from by decide +kernel]
  rfl

end Go.Proofs.Ytfbhgbnpppbiiaa.X
