/- SuperFrom: a level is taken from no earlier a place than a greater one; each place from which one is taken is one of a greater level, or the first one. For every input. -/
import Derived.Test.YtfbhgbnpppbiiaaPC
import Derived.Test.YtfbhgbnpppbiiaaXstepladderlaw14SuperFrom
namespace Go.Proofs.Ytfbhgbnpppbiiaa.Pure
open Go.RowKit Go.Proofs.Ytfbhgbnpppbiiaa.X Go.Proofs.YtfbhgbnpppbiiaaW.PrintWords Go.Proofs.YtfbhgbnpppbiiaaW.PrintLast

theorem SuperFrom.all (l : List Int) (m p n : Int) (hm : (Lit.int .i64 m).wf = true) (k : Nat) (hk : 300 < k) : stepladderlaw14_SuperFrom.f k l m p n = some true := by
  obtain ⟨k, rfl⟩ : ∃ m, k = m + 1 := ⟨k - 1, by omega⟩
  have hj : stepladderlaw14_SuperFrom.j0 (k + 1) l m p n true true = some true := by simp only [stepladderlaw14_SuperFrom.j0, if_true]
  unfold stepladderlaw14_SuperFrom.f
  rw [P.awake14 _ (by omega)]
  simp only [Option.bind_some, if_true]
  by_cases h1 : (l.length : Int) > 210
  · rw [if_pos h1, hj]
  rw [if_neg h1]
  by_cases h2 : n < 0
  · rw [if_pos h2, hj]
  rw [if_neg h2]
  by_cases h3 : n > 31
  · rw [decide_eq_true h3, hj]
  rw [decide_eq_false h3]
  simp only [stepladderlaw14_SuperFrom.j0]
  rw [if_neg (by decide), E.wrap_id (by omega) (by omega), P.from_f l m p n hm (by omega), P.from_f l m p (n + 1) hm (by omega)]
  simp only [Option.bind_some]
  cases hok : S.okB l m p with
  | false =>
    rw [S.fromZ_bad hok, S.fromZ_bad hok]
    rfl
  | true =>
    have ha := S.fromZ_range (n := n) hok
    have hb := S.fromZ_range (n := n + 1) hok
    have hp := (S.okB_parts hok).2.2.1
    have hab : S.fromZ l m p (n + 1) ≤ S.fromZ l m p n := by
      by_cases h31 : n = 31
      · have : S.fromZ l m p (n + 1) = 0 := by unfold S.fromZ; rw [if_pos hok, if_pos (by omega)]
        omega
      · exact S.fromZ_anti hok (by omega) (by omega)
    rw [if_neg (by omega), if_neg (by omega), if_pos hab, if_pos (by omega)]
    by_cases hz : S.fromZ l m p n = 0
    · rw [if_pos hz]
    · rw [if_neg hz, if_pos (by omega)]
      rcases ha.2.2 with h | h
      · exact absurd h hz
      · congr 1
        rw [decide_eq_true_eq]
        omega

theorem SuperFrom : stepladderlaw14_SuperFrom.Pure := fun l m p n _ _ _ hm _ _ => ⟨301, SuperFrom.all l m p n hm 301 (by omega)⟩

end Go.Proofs.Ytfbhgbnpppbiiaa.Pure
