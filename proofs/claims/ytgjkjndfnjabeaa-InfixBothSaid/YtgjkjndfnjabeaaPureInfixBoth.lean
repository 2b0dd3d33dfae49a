/- InfixBoth: both of two lists is the same either way round, has all of both, and rises; of one and itself it has that one's numbers. For every input. -/
import Derived.Test.YtgjkjndfnjabeaaPI
import Derived.Test.YtgjkjndfnjabeaaXstepladderlaw16InfixBoth
namespace Go.Proofs.Ytgjkjndfnjabeaa.Pure
open Go.RowKit Go.Proofs.Ytgjkjndfnjabeaa.X Go.Proofs.YtgjkjndfnjabeaaW.PrintWords Go.Proofs.YtgjkjndfnjabeaaW.PrintLast

theorem InfixBoth.l0 (a b l : List Int) (hup : S.Up l) (hl : l.length ≤ a.length + b.length) (hab : a.length + b.length ≤ 200) (d : Nat) : ∀ (k i : Nat), 1 ≤ i → l.length + 1 - i = d → d < k → stepladderlaw16_InfixBoth.l0 k a b l true true true i = some true := by
  induction d with
  | zero =>
    intro k i h1 hd hk
    obtain ⟨k, rfl⟩ : ∃ m, k = m + 1 := ⟨k - 1, by omega⟩
    simp only [stepladderlaw16_InfixBoth.l0, if_true]
    rw [if_neg (by omega), E.wrap_id (x := (a.length : Int) + b.length) (by omega) (by omega), decide_eq_true (by omega)]
  | succ d ih =>
    intro k i h1 hd hk
    obtain ⟨k, rfl⟩ : ∃ m, k = m + 1 := ⟨k - 1, by omega⟩
    simp only [stepladderlaw16_InfixBoth.l0, if_true]
    by_cases hi : i < l.length
    · have hr := S.up_rd hup (i := i - 1) (j := i) (by omega) hi
      rw [if_pos (by omega), if_pos (by omega), E.wrap_id (x := (i : Int) - 1) (by omega) (by omega), if_pos (by omega), if_pos (by omega), show (i : Int) - 1 = ((i - 1 : Nat) : Int) from by omega, if_neg (by omega), P.next (by omega)]
      exact ih k (i + 1) (by omega) (by omega) (by omega)
    · rw [if_neg (by omega), E.wrap_id (x := (a.length : Int) + b.length) (by omega) (by omega), decide_eq_true (by omega)]

theorem InfixBoth.all (a b : List Int) (k : Nat) (hk : 2000 < k) : stepladderlaw16_InfixBoth.f k a b = some true := by
  obtain ⟨k, rfl⟩ : ∃ m, k = m + 1 := ⟨k - 1, by omega⟩
  have hj : stepladderlaw16_InfixBoth.j0 (k + 1) a b true true = some true := by simp only [stepladderlaw16_InfixBoth.j0, if_true]
  unfold stepladderlaw16_InfixBoth.f
  rw [P.awake16 _ (by omega)]
  simp only [Option.bind_some, if_true]
  by_cases h1 : (a.length : Int) > 60
  · rw [if_pos h1, hj]
  rw [if_neg h1]
  by_cases h2 : (b.length : Int) > 60
  · rw [decide_eq_true h2, hj]
  rw [decide_eq_false h2]
  have e1 : S.bothL b a = S.bothL a b := S.up_ext (S.both_up _ _) (S.both_up _ _) fun x => by rw [S.both_mem, S.both_mem]; exact Or.comm
  have e2 : S.bothL (S.bothL a b) a = S.bothL a b := S.up_ext (S.both_up _ _) (S.both_up _ _) fun x => by
    rw [S.both_mem, S.both_mem]
    exact ⟨fun h => h.elim id .inl, .inl⟩
  have e3 : S.bothL (S.bothL a b) (S.bothL a b) = S.bothL a b := S.up_ext (S.both_up _ _) (S.both_up _ _) fun x => by
    rw [S.both_mem, S.both_mem]
    exact ⟨fun h => h.elim id id, .inl⟩
  have hl := S.both_len a b
  simp only [stepladderlaw16_InfixBoth.j0]
  rw [if_neg (by decide), P.both_f a b (by omega)]
  simp only [Option.bind_some]
  rw [P.both_f b a (by omega), e1]
  simp only [Option.bind_some]
  rw [P.ints _ _ (by omega) k (by omega)]
  simp only [Option.bind_some]
  rw [P.both_f _ a (by omega), e2]
  simp only [Option.bind_some]
  rw [P.ints _ _ (by omega) k (by omega)]
  simp only [Option.bind_some]
  rw [P.both_f _ _ (by omega), e3]
  simp only [Option.bind_some]
  rw [P.ints _ _ (by omega) k (by omega)]
  simp only [Option.bind_some, decide_true]
  exact InfixBoth.l0 a b _ (S.both_up a b) hl (by omega) _ k 1 (by omega) rfl (by omega)

theorem InfixBoth : stepladderlaw16_InfixBoth.Pure := fun a b _ _ _ _ _ _ => ⟨2001, InfixBoth.all a b 2001 (by omega)⟩

end Go.Proofs.Ytgjkjndfnjabeaa.Pure
