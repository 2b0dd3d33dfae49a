/- InfixBack: a link of a greater number leads no less far; the place has that level, and none between has; links of two blocks do not cross. For every input. -/
import Derived.Test.YtgjkjndfnjabeaaPI
import Derived.Test.YtgjkjndfnjabeaaXstepladderlaw16InfixBack
namespace Go.Proofs.Ytgjkjndfnjabeaa.Pure
open Go.RowKit Go.Proofs.Ytgjkjndfnjabeaa.X Go.Proofs.YtgjkjndfnjabeaaW.PrintWords Go.Proofs.YtgjkjndfnjabeaaW.PrintLast

theorem InfixBack.is {l : List Int} {i n : Int} (h : S.mayB l = true ∧ 1 ≤ i ∧ i < l.length ∧ 0 ≤ n ∧ n ≤ 31) :
    0 ≤ S.backZ l i n ∧ S.backZ l i n < i ∧ (n ≤ 0 → S.backZ l i n = i - 1) ∧ (0 < n → n ≤ rd l (S.backZ l i n)) ∧ ∀ y : Int, S.backZ l i n < y → y < i → rd l y < n := by
  have e : S.backZ l i n = S.backN l n i.toNat := by unfold S.backZ; rw [if_pos h]
  obtain ⟨_, _, h31, _⟩ := S.mayB_parts h.1
  have := S.backN_is (l := l) (n := n) (by omega) i.toNat (by omega)
  rw [← e, show ((i.toNat : Nat) : Int) = i from by omega] at this
  exact this
theorem InfixBack.bad {l : List Int} {i n : Int} (h : ¬(S.mayB l = true ∧ 1 ≤ i ∧ i < l.length ∧ 0 ≤ n ∧ n ≤ 31)) : S.backZ l i n = -1 := by unfold S.backZ; rw [if_neg h]

theorem InfixBack.all (l : List Int) (i n more j : Int) (hi' : (Lit.int .i64 i).wf = true) (k : Nat) (hk : 2000 < k) : stepladderlaw16_InfixBack.f k l i n more j = some true := by
  obtain ⟨k, rfl⟩ : ∃ m, k = m + 1 + 1 + 1 := ⟨k - 3, by omega⟩
  have hj : stepladderlaw16_InfixBack.j0 (k + 1 + 1 + 1) l i n more j true true = some true := by simp only [stepladderlaw16_InfixBack.j0, if_true]
  unfold stepladderlaw16_InfixBack.f
  rw [P.awake16 _ (by omega)]
  simp only [Option.bind_some, if_true]
  by_cases h1 : (l.length : Int) > 210
  · rw [if_pos h1, hj]
  rw [if_neg h1]
  by_cases h2 : more < n
  · rw [decide_eq_true h2, hj]
  rw [decide_eq_false h2]
  simp only [stepladderlaw16_InfixBack.j0]
  rw [if_neg (by decide), P.back_f _ _ _ _ (by omega), P.back_f _ _ _ _ (by omega)]
  simp only [Option.bind_some]
  by_cases hok : S.mayB l = true ∧ 1 ≤ i ∧ i < l.length ∧ 0 ≤ n ∧ n ≤ 31
  · obtain ⟨a0, a1, a2, a3, a4⟩ := InfixBack.is hok
    obtain ⟨q0, q1, q2, q3, q4⟩ := hok
    generalize hA : S.backZ l i n = A at *
    rw [if_neg (by omega)]
    by_cases hokb : more ≤ 31
    · obtain ⟨b0, b1, b2, b3, b4⟩ := InfixBack.is (l := l) (i := i) (n := more) ⟨q0, q1, q2, by omega, hokb⟩
      generalize hB : S.backZ l i more = B at *
      rw [decide_eq_false (by omega)]
      simp only [stepladderlaw16_InfixBack.j1]
      have hBA : B ≤ A := by
        by_cases h : B ≤ A
        · exact h
        · by_cases hm0 : more = 0
          · have := b2 (by omega); have := a2 (by omega); omega
          · have h3 := b3 (by omega)
            have h4 := a4 B (by omega) b1
            omega
      have hjn : stepladderlaw16_InfixBack.j2 (k + 1) l i n j A false = some true := by
        have hlast : ∀ t : Int, (n < 1 ∨ j ≤ A ∨ j ≥ i ∨ t ≤ A) → (if n < 1 then (some true) else (if j ≤ A then (some true) else (if j ≥ i then (some true) else (some (decide (t ≤ A)))))) = some true := fun t ht => by
          by_cases d1 : n < 1
          · rw [if_pos d1]
          rw [if_neg d1]
          by_cases d2 : j ≤ A
          · rw [if_pos d2]
          rw [if_neg d2]
          by_cases d3 : j ≥ i
          · rw [if_pos d3]
          rw [if_neg d3, decide_eq_true (by omega)]
        have hjb : n < 1 ∨ j ≤ A ∨ j ≥ i ∨ S.backZ l j n ≤ A := by
          by_cases d : A < j ∧ j < i ∧ 1 ≤ n
          · obtain ⟨c0, c1, c2, c3, c4⟩ := InfixBack.is (l := l) (i := j) (n := n) ⟨q0, by omega, by omega, q3, q4⟩
            by_cases e : S.backZ l j n ≤ A
            · exact .inr (.inr (.inr e))
            · have := c3 (by omega)
              have := a4 (S.backZ l j n) (by omega) (by omega)
              omega
          · omega
        simp only [stepladderlaw16_InfixBack.j2]
        rw [if_neg (by decide), P.back_f _ _ _ _ (by omega)]
        simp only [Option.bind_some]
        by_cases e1 : j > A
        · rw [if_pos e1]
          by_cases e2 : j < i
          · rw [if_pos e2, if_pos (by omega), if_pos (by omega)]
            by_cases e3 : rd l j ≥ n
            · have := a4 j e1 e2
              omega
            · rw [if_neg e3]; exact hlast _ hjb
          · rw [if_neg e2]; exact hlast _ hjb
        · rw [if_neg e1]; exact hlast _ hjb
      have hwf := P.wf_bounds hi'
      rw [if_neg (by decide), if_neg (by omega), if_neg (by omega), E.wrap_id (x := i - 1) (by omega) (by omega)]
      by_cases e1 : n > 0
      · have := a3 e1
        rw [if_pos e1, if_pos (by omega), if_pos (by omega), if_neg (by omega), if_neg (by omega)]
        exact hjn
      · have := a2 (by omega)
        rw [if_neg e1, if_pos (by omega), show (A != i - 1) = false from by simp; omega]
        exact hjn
    · rw [InfixBack.bad (fun h => by omega), decide_eq_true (by omega)]
      simp only [stepladderlaw16_InfixBack.j1, if_true]
      rw [if_neg (by omega), decide_eq_true (by omega)]
  · rw [InfixBack.bad hok]
    rw [if_pos (by omega)]
    simp only [stepladderlaw16_InfixBack.j1, if_true]
    rw [if_pos (by omega)]

theorem InfixBack : stepladderlaw16_InfixBack.Pure := fun l i n more j _ _ _ hi _ _ _ => ⟨2001, InfixBack.all l i n more j hi 2001 (by omega)⟩

end Go.Proofs.Ytgjkjndfnjabeaa.Pure
