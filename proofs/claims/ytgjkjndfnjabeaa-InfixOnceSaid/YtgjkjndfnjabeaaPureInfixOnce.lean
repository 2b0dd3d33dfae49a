/- InfixOnce: the way to a place of a way is its upper part. For every input. -/
import Derived.Test.YtgjkjndfnjabeaaPI
import Derived.Test.YtgjkjndfnjabeaaXstepladderlaw16InfixOnce
namespace Go.Proofs.Ytgjkjndfnjabeaa.Pure
open Go.RowKit Go.Proofs.Ytgjkjndfnjabeaa.X Go.Proofs.YtgjkjndfnjabeaaW.PrintWords Go.Proofs.YtgjkjndfnjabeaaW.PrintLast

/-- Of rising places those from one on are those that are not below it. -/
theorem InfixOnce.drop {w : List Int} (h : S.Up w) {i : Nat} (hi : i < w.length) : w.drop i = w.filter fun x => decide (rd w i ≤ x) := by
  refine S.up_ext (List.Pairwise.sublist (List.drop_sublist _ _) h) (S.up_filter h _) fun x => ?_
  rw [List.mem_filter, decide_eq_true_eq]
  constructor
  · intro hx
    obtain ⟨j, hj, rfl⟩ := List.mem_iff_getElem.1 hx
    rw [List.length_drop] at hj
    rw [List.getElem_drop]
    refine ⟨List.getElem_mem _, ?_⟩
    rw [← rd_get (by omega : i + j < w.length)]
    by_cases e : j = 0
    · subst e; exact Int.le_refl _
    · exact Int.le_of_lt (S.up_rd h (by omega) (by omega))
  · rintro ⟨hx, hle⟩
    obtain ⟨j, hj, rfl⟩ := List.mem_iff_getElem.1 hx
    have hij : i ≤ j := by
      rcases Nat.lt_or_ge j i with h1 | h1
      · have := S.up_rd h h1 hi
        rw [rd_get hj] at this
        omega
      · exact h1
    have := List.getElem_mem (l := w.drop i) (n := j - i) (by rw [List.length_drop]; omega)
    rw [List.getElem_drop] at this
    simpa [show i + (j - i) = j from by omega] using this

theorem InfixOnce.upper {l : List Int} {hi lo m : Int} (h0 : 0 ≤ lo) (h1 : hi < l.length) (h2 : lo ≤ hi) (hm : m ∈ S.wayL l hi lo) : S.wayL l hi m = (S.wayL l hi lo).filter fun x => decide (m ≤ x) := by
  have hr := S.wayL_range h0 h1 h2 m hm
  refine S.up_ext (S.wayL_up _ _ _) (S.up_filter (S.wayL_up _ _ _) _) fun x => ?_
  rw [List.mem_filter, decide_eq_true_eq, S.wayL_mem (by omega) h1, S.wayL_mem h0 h1]
  constructor
  · rintro (h | ⟨a, b, c, d⟩)
    · exact ⟨.inl h, by omega⟩
    · refine ⟨.inr ⟨by omega, b, c, fun y y1 y2 => ?_⟩, a⟩
      rcases Int.lt_or_le y m with h | h
      · rcases (S.wayL_mem h0 h1).1 hm with e | ⟨_, _, _, m4⟩
        · omega
        · have h3 := m4 y y1 h
          rcases Int.lt_or_le m x with h' | h'
          · have := d m (Int.le_refl _) h'; omega
          · have : x = m := by omega
            subst this; exact h3
      · exact d y h y2
  · rintro ⟨h | ⟨a, b, c, d⟩, hmx⟩
    · exact .inl h
    · exact .inr ⟨hmx, b, c, fun y y1 y2 => d y (by omega) y2⟩

theorem InfixOnce.all (l : List Int) (hi lo i : Int) (k : Nat) (hk : 2000 < k) : stepladderlaw16_InfixOnce.f k l hi lo i = some true := by
  obtain ⟨k, rfl⟩ : ∃ m, k = m + 1 + 1 := ⟨k - 2, by omega⟩
  have hj : stepladderlaw16_InfixOnce.j0 (k + 1 + 1) l hi lo i true true = some true := by simp only [stepladderlaw16_InfixOnce.j0, if_true]
  have hj1 : ∀ a, stepladderlaw16_InfixOnce.j1 (k + 1) l hi i a true = some true := fun a => by simp only [stepladderlaw16_InfixOnce.j1, if_true]
  unfold stepladderlaw16_InfixOnce.f
  rw [P.awake16 _ (by omega)]
  simp only [Option.bind_some, if_true]
  by_cases h1 : (l.length : Int) > 210
  · rw [decide_eq_true h1, hj]
  rw [decide_eq_false h1]
  simp only [stepladderlaw16_InfixOnce.j0]
  rw [if_neg (by decide), P.follow_f]
  simp only [Option.bind_some]
  by_cases hok : S.mayB l = true ∧ 0 ≤ lo ∧ lo ≤ hi ∧ hi < l.length
  · rw [S.follow_ok hok]
    obtain ⟨q0, q1, q2, q3⟩ := hok
    simp only [if_true]
    by_cases c1 : i < 0
    · rw [if_pos c1, hj1]
    rw [if_neg c1]
    by_cases c2 : i ≥ ((S.wayL l hi lo).length : Int)
    · rw [decide_eq_true c2, hj1]
    rw [decide_eq_false c2]
    simp only [stepladderlaw16_InfixOnce.j1]
    have hm := S.rd_mem (a := S.wayL l hi lo) (i := i) (by omega) (by omega)
    have hr := S.wayL_range q1 q3 q2 _ hm
    have hlen := S.wayL_len l hi lo
    rw [if_neg (by decide), if_pos (by omega), if_pos (by omega), P.follow_f, S.follow_ok ⟨q0, by omega, hr.2, q3⟩]
    simp only [Option.bind_some, if_true]
    have e : (S.wayL l hi lo).drop i.toNat = S.wayL l hi (rd (S.wayL l hi lo) i) := by
      rw [InfixOnce.upper q1 q3 q2 hm, InfixOnce.drop (S.wayL_up _ _ _) (by omega), show ((i.toNat : Nat) : Int) = i from by omega]
    have hlen2 := S.wayL_len l hi (rd (S.wayL l hi lo) i)
    rw [if_pos (by omega), e, P.ints _ _ (by omega) k (by omega)]
    simp
  · rw [S.follow_bad hok]
    simp only
    rw [if_neg (by decide), hj1]

theorem InfixOnce : stepladderlaw16_InfixOnce.Pure := fun l hi lo i _ _ _ _ _ _ => ⟨2001, InfixOnce.all l hi lo i 2001 (by omega)⟩

end Go.Proofs.Ytgjkjndfnjabeaa.Pure
