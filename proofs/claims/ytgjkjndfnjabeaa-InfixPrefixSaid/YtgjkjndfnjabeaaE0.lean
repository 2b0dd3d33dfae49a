/- super.Up as the print has it comes to S.upZ; what S.upZ is. -/
import Derived.Test.YtgjkjndfnjabeaaXsuperUp
import Derived.Test.YtgjkjndfnjabeaaS
namespace Go.Proofs.Ytgjkjndfnjabeaa.X
open Go.RowKit Go.Proofs.YtgjkjndfnjabeaaW.PrintWords

theorem E.wrap_id {x : Int} (h0 : -9223372036854775808 ≤ x) (h1 : x ≤ 9223372036854775807) : wrap64 x = x := by
  unfold wrap64
  omega

theorem E.rd_drop (l : List Int) (i : Nat) (x : Int) (t : List Int) (h : l.drop i = x :: t) : rd l i = x ∧ i < l.length ∧ l.drop (i + 1) = t := by
  have hi : i < l.length := by
    rcases Nat.lt_or_ge i l.length with h1 | h1
    · exact h1
    · rw [List.drop_of_length_le h1] at h; cases h
  rw [List.drop_eq_getElem_cons hi] at h
  injection h with h1 h2
  exact ⟨by simp [rd, List.getElem?_eq_getElem hi, List.getD_eq_getElem?_getD, h1], hi, h2⟩

theorem E.upFrom_none (l : List Int) (i fr hi n : Int) (h : hi ≤ i) : S.upFrom l i fr hi n = [] := by
  induction l generalizing i with
  | nil => rfl
  | cons x t ih =>
    unfold S.upFrom
    rw [if_neg (by omega)]
    exact ih (i + 1) (by omega)

theorem E.upFrom_skip (d : Nat) : ∀ (l : List Int) (i fr hi n : Int), i + d ≤ fr → S.upFrom l i fr hi n = S.upFrom (l.drop d) (i + d) fr hi n := by
  induction d with
  | zero => intro l i fr hi n _; simp
  | succ d ih =>
    intro l i fr hi n h
    cases l with
    | nil => simp [S.upFrom]
    | cons x t =>
      conv => lhs; unfold S.upFrom
      rw [if_neg (by omega), ih t (i + 1) fr hi n (by omega), List.drop_succ_cons]
      congr 1
      omega

theorem E.up_l0 (l : List Int) (hi n : Int) (hl : l.length ≤ 17592186044415) (d : Nat) : ∀ (k i : Nat) (fr : Int) (acc : List Int), l.length - i = d → i ≤ l.length → fr ≤ i → acc.length ≤ i → d < k →
    super_Up.l0 k l hi n acc i = some (acc ++ S.upFrom (l.drop i) i fr hi n) := by
  induction d with
  | zero =>
    intro k i fr acc hd hi' hfr hacc hk
    obtain ⟨k, rfl⟩ : ∃ m, k = m + 1 := ⟨k - 1, by omega⟩
    simp only [super_Up.l0]
    rw [if_neg (by unfold mn; split <;> omega), List.drop_of_length_le (by omega)]
    simp [S.upFrom]
  | succ d ih =>
    intro k i fr acc hd hi' hfr hacc hk
    obtain ⟨k, rfl⟩ : ∃ m, k = m + 1 := ⟨k - 1, by omega⟩
    have hlt : i < l.length := by omega
    have hdr := List.drop_eq_getElem_cons hlt
    have hrd : rd l i = l[i] := by simp [rd, List.getElem?_eq_getElem hlt, List.getD_eq_getElem?_getD]
    have hw : wrap64 ((i : Int) + 1) = ((i + 1 : Nat) : Int) := by rw [E.wrap_id (by omega) (by omega)]; omega
    simp only [super_Up.l0]
    by_cases hc : (i : Int) < hi
    · rw [if_pos (by unfold mn; split <;> omega), if_pos (by omega), if_pos (by omega), hrd, hdr, hw]
      by_cases hx : l[i] ≥ n
      · rw [if_pos hx, if_pos (by omega), ih k (i + 1) fr _ (by omega) (by omega) (by omega) (by simp; omega) (by omega)]
        conv => rhs; unfold S.upFrom
        rw [if_pos ⟨hfr, hc, hx⟩]
        simp
      · rw [if_neg hx, ih k (i + 1) fr _ (by omega) (by omega) (by omega) (by omega) (by omega)]
        conv => rhs; unfold S.upFrom
        rw [if_neg (by omega)]
        simp
    · rw [if_neg (by unfold mn; split <;> omega), E.upFrom_none _ _ _ _ _ (by omega)]
      simp

theorem E.up_f (l : List Int) (fr hi n : Int) (hl : l.length ≤ 17592186044415) (k : Nat) (hk : l.length + 1 < k) : super_Up.f k l fr hi n = some (S.upZ l fr hi n) := by
  unfold super_Up.f S.upZ
  by_cases h0 : fr ≤ 0
  · have : mx fr 0 = ((0 : Nat) : Int) := by unfold mx; split <;> omega
    rw [this, E.up_l0 l hi n hl l.length k 0 fr [] (by omega) (by omega) (by omega) (by simp) (by omega)]
    simp
  · obtain ⟨f, rfl⟩ : ∃ f : Nat, fr = f := ⟨fr.toNat, by omega⟩
    have : mx (f : Int) 0 = (f : Int) := by unfold mx; split <;> omega
    rw [this]
    by_cases hf : f ≤ l.length
    · rw [E.up_l0 l hi n hl (l.length - f) k f f [] rfl hf (by omega) (by simp) (by omega), E.upFrom_skip f l 0 f hi n (by omega)]
      simp
    · obtain ⟨k, rfl⟩ : ∃ m, k = m + 1 := ⟨k - 1, by omega⟩
      simp only [super_Up.l0]
      rw [if_neg (by unfold mn; split <;> omega), E.upFrom_skip f l 0 f hi n (by omega), List.drop_of_length_le (by omega)]
      simp [S.upFrom]

end Go.Proofs.Ytgjkjndfnjabeaa.X
