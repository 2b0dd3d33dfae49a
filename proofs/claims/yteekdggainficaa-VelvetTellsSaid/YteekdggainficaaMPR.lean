/- What the document's answers for layer 14 come to, as the print has them. -/
import Derived.Test.YteekdggainficaaMB2
import Derived.Test.YteekdggainficaaMXstepladderref14May
import Derived.Test.YteekdggainficaaMXstepladderref14Up
namespace Go.Proofs.Yteekdggainficaa.X
open Go.RowKit Go.Proofs.YteekdggainficaaW.PrintWords

theorem P.rnext {i : Nat} (hi : i ≤ 1000000) : wrap64 ((i : Int) + 1) = ((i + 1 : Nat) : Int) := by rw [E.wrap_id (by omega) (by omega)]; omega

theorem P.r14_may_l0 (l : List Int) (hl : l.length ≤ 1000000) (d : Nat) : ∀ (k i : Nat), l.length - i = d → i ≤ l.length → d < k → stepladderref14_May.l0 k l i = some (!(l.drop i).any S.oddB) := by
  induction d with
  | zero =>
    intro k i hd hi hk
    obtain ⟨k, rfl⟩ : ∃ m, k = m + 1 := ⟨k - 1, by omega⟩
    simp only [stepladderref14_May.l0]
    rw [if_neg (by omega), List.drop_of_length_le (by omega)]
    rfl
  | succ d ih =>
    intro k i hd hi hk
    obtain ⟨k, rfl⟩ : ∃ m, k = m + 1 := ⟨k - 1, by omega⟩
    have h1 : i < l.length := by omega
    simp only [stepladderref14_May.l0]
    rw [if_pos (by omega), if_pos (by omega), rd_get h1, List.drop_eq_getElem_cons h1, List.any_cons]
    by_cases ha : l[i] < 0
    · rw [if_pos ha, show S.oddB l[i] = true from decide_eq_true (by omega)]
      rfl
    · rw [if_neg ha]
      by_cases hb : l[i] > 31
      · rw [if_pos hb, show S.oddB l[i] = true from decide_eq_true (by omega)]
        rfl
      · rw [if_neg hb, P.rnext (by omega), ih k (i + 1) (by omega) (by omega) (by omega), show S.oddB l[i] = false from decide_eq_false (by omega)]
        rfl

theorem P.r14_may (l : List Int) (hl : l.length ≤ 210) (k : Nat) (hk : 300 < k) : stepladderref14_May.f k l = some (S.mayB l) := by
  obtain ⟨k, rfl⟩ : ∃ m, k = m + 1 := ⟨k - 1, by omega⟩
  have hj : stepladderref14_May.j0 (k + 1) l true = some false := by simp only [stepladderref14_May.j0, if_true]
  unfold stepladderref14_May.f S.mayB
  by_cases h1 : (l.length : Int) < 1
  · rw [if_pos h1, hj, decide_eq_false (p := 0 < l.length) (by omega)]
    rfl
  rw [if_neg h1]
  by_cases h2 : (l.length : Int) > 200
  · rw [if_pos h2, hj, decide_eq_true (p := 0 < l.length) (by omega), decide_eq_false (p := l.length ≤ 200) (by omega)]
    rfl
  rw [if_neg h2, if_pos (by omega), decide_eq_true (p := 0 < l.length) (by omega), decide_eq_true (p := l.length ≤ 200) (by omega)]
  by_cases h3 : rd l 0 = 31
  · have := P.r14_may_l0 l (by omega) l.length k 0 (by omega) (by omega) (by omega)
    rw [show ((0 : Nat) : Int) = 0 from rfl] at this
    rw [show (rd l 0 != 31) = false from by simp [h3], decide_eq_true h3]
    simp only [stepladderref14_May.j0]
    rw [if_neg (by decide), this]
    simp
  · rw [show (rd l 0 != 31) = true from by simpa using h3, hj, decide_eq_false h3]
    rfl

theorem P.r14_up_l0 (l : List Int) (fr hi n : Int) (hl : l.length ≤ 1000000) (d : Nat) : ∀ (k i : Nat) (acc : List Int), l.length - i = d → i ≤ l.length → acc.length ≤ i → d < k →
    stepladderref14_Up.l0 k l fr hi n acc i = some (acc ++ S.upFrom (l.drop i) i fr hi n) := by
  induction d with
  | zero =>
    intro k i acc hd hi' hacc hk
    obtain ⟨k, rfl⟩ : ∃ m, k = m + 1 := ⟨k - 1, by omega⟩
    simp only [stepladderref14_Up.l0]
    rw [if_neg (by omega), List.drop_of_length_le (by omega)]
    simp [S.upFrom]
  | succ d ih =>
    intro k i acc hd hi' hacc hk
    obtain ⟨k, rfl⟩ : ∃ m, k = m + 1 := ⟨k - 1, by omega⟩
    have h1 : i < l.length := by omega
    have hs : ¬(fr ≤ (i : Int) ∧ (i : Int) < hi ∧ n ≤ l[i]) → stepladderref14_Up.l0 k l fr hi n acc (wrap64 ((i : Int) + 1)) = some (acc ++ S.upFrom (l.drop i) i fr hi n) := fun h => by
      rw [P.rnext (by omega), ih k (i + 1) acc (by omega) (by omega) (by omega) (by omega), List.drop_eq_getElem_cons h1]
      conv => rhs; unfold S.upFrom
      rw [if_neg h]
      rfl
    simp only [stepladderref14_Up.l0]
    rw [if_pos (by omega), rd_get h1]
    by_cases c1 : (i : Int) ≥ fr
    · rw [if_pos c1]
      by_cases c2 : (i : Int) < hi
      · rw [if_pos c2, if_pos (by omega)]
        by_cases c3 : l[i] ≥ n
        · rw [if_pos c3, if_pos (by omega), P.rnext (by omega), ih k (i + 1) _ (by omega) (by omega) (by simp; omega) (by omega), List.drop_eq_getElem_cons h1]
          conv => rhs; unfold S.upFrom
          rw [if_pos ⟨c1, c2, c3⟩]
          simp
        · rw [if_neg c3, hs (fun h => c3 h.2.2)]
      · rw [if_neg c2, hs (fun h => c2 h.2.1)]
    · rw [if_neg c1, hs (fun h => c1 h.1)]

theorem P.r14_up (l : List Int) (fr hi n : Int) (hl : l.length ≤ 1000000) (k : Nat) (hk : l.length + 1 < k) : stepladderref14_Up.f k l fr hi n = some (S.upZ l fr hi n) := by
  have := P.r14_up_l0 l fr hi n (by omega) l.length k 0 [] (by omega) (by omega) (by simp) (by omega)
  rw [show ((0 : Nat) : Int) = 0 from rfl] at this
  unfold stepladderref14_Up.f
  rw [this]
  simp [S.upZ]

end Go.Proofs.Yteekdggainficaa.X
