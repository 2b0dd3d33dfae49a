/- GoodCount: there are no more places of a level than of a less one, nor from a later place on; from the first one on all have level 0, if they may be. For every input. -/
import Derived.Test.YtfbhgbnpppbiiaaPB
import Derived.Test.YtfbhgbnpppbiiaaXstepladderlaw15GoodCount
namespace Go.Proofs.Ytfbhgbnpppbiiaa.Pure
open Go.RowKit Go.Proofs.Ytfbhgbnpppbiiaa.X Go.Proofs.YtfbhgbnpppbiiaaW.PrintWords Go.Proofs.YtfbhgbnpppbiiaaW.PrintLast

theorem GoodCount.all (l : List Int) (i j n lo : Int) (k : Nat) (hk : 300 < k) : stepladderlaw15_GoodCount.f k l i j n lo = some true := by
  obtain ⟨k, rfl⟩ : ∃ m, k = m + 1 := ⟨k - 1, by omega⟩
  have hj : stepladderlaw15_GoodCount.j0 (k + 1) l i j n lo true true = some true := by simp only [stepladderlaw15_GoodCount.j0, if_true]
  unfold stepladderlaw15_GoodCount.f
  rw [P.awake15 _ (by omega)]
  simp only [Option.bind_some, if_true]
  by_cases h1 : (l.length : Int) > 210
  · rw [if_pos h1, hj]
  rw [if_neg h1]
  by_cases h2 : j < i
  · rw [if_pos h2, hj]
  rw [if_neg h2]
  by_cases h3 : lo > n
  · rw [decide_eq_true h3, hj]
  rw [decide_eq_false h3]
  simp only [stepladderlaw15_GoodCount.j0]
  rw [if_neg (by decide), P.count l i n (by omega) k (by omega)]
  simp only [Option.bind_some]
  rw [if_pos (S.cntZ_nonneg _ _ _), P.count l j n (by omega) k (by omega)]
  simp only [Option.bind_some]
  rw [if_pos (S.cntZ_mono (by omega) (by omega)), P.count l i lo (by omega) k (by omega)]
  simp only [Option.bind_some]
  rw [if_pos (S.cntZ_mono (by omega) (by omega)), P.may_f]
  simp only [Option.bind_some]
  by_cases hm : S.mayB l = true
  · rw [if_pos hm, P.count l 0 0 (by omega) k (by omega)]
    simp only [Option.bind_some]
    rw [S.cntZ_all (fun x h0 h1 => ((S.mayB_parts hm).2.2.2 x h0 h1).1) (Int.le_refl _) (by omega)]
    simp
  · rw [if_neg hm]

theorem GoodCount : stepladderlaw15_GoodCount.Pure := fun l i j n lo _ _ _ _ _ _ _ => ⟨301, GoodCount.all l i j n lo 301 (by omega)⟩

end Go.Proofs.Ytfbhgbnpppbiiaa.Pure
