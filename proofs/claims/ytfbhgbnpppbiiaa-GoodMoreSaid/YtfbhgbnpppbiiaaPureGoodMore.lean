/- GoodMore: what is good, or fair, with one m is with a greater one; level 0 always is fair. For every input. -/
import Derived.Test.YtfbhgbnpppbiiaaPB
import Derived.Test.YtfbhgbnpppbiiaaXstepladderlaw15GoodMore
namespace Go.Proofs.Ytfbhgbnpppbiiaa.Pure
open Go.RowKit Go.Proofs.Ytfbhgbnpppbiiaa.X Go.Proofs.YtfbhgbnpppbiiaaW.PrintWords Go.Proofs.YtfbhgbnpppbiiaaW.PrintLast

theorem GoodMore.good {l : List Int} {m m' : Int} (h : S.goodB l m = true) (hm : m ≤ m') : S.goodB l m' = true := by
  rw [S.goodB_iff] at h ⊢
  exact ⟨h.1, by omega, fun n hn i h0 h1 h2 h3 => h.2.2 n hn i h0 h1 h2 (by omega)⟩
theorem GoodMore.fair {l : List Int} {n m m' : Int} (h : S.fairB l n m = true) (hm : m ≤ m') : S.fairB l n m' = true := by
  rw [S.fairB_iff] at h ⊢
  exact ⟨h.1, h.2.1, h.2.2.1, by omega, fun i h0 h1 h2 h3 => h.2.2.2.2 i h0 h1 h2 (by omega)⟩
theorem GoodMore.zero {l : List Int} {m : Int} (hm : 1 ≤ m) : S.fairB l 0 m = S.mayB l := by
  rw [Bool.eq_iff_iff, S.fairB_iff]
  constructor
  · exact fun h => h.1
  · intro h
    refine ⟨h, by omega, by omega, hm, fun i h0 h1 h2 h3 => ?_⟩
    rw [S.cntZ_all (fun x h0 h1 => ((S.mayB_parts h).2.2.2 x h0 h1).1) h0 (by omega)]
    simp
    omega

theorem GoodMore.all (l : List Int) (n m m' : Int) (k : Nat) (hk : 300 < k) : stepladderlaw15_GoodMore.f k l n m m' = some true := by
  obtain ⟨k, rfl⟩ : ∃ m, k = m + 1 + 1 := ⟨k - 2, by omega⟩
  have hj : stepladderlaw15_GoodMore.j0 (k + 1 + 1) l n m m' true true = some true := by simp only [stepladderlaw15_GoodMore.j0, if_true]
  unfold stepladderlaw15_GoodMore.f
  rw [P.awake15 _ (by omega)]
  simp only [Option.bind_some, if_true]
  by_cases h1 : (l.length : Int) > 210
  · rw [if_pos h1, hj]
  rw [if_neg h1]
  by_cases h2 : m < 1
  · rw [if_pos h2, hj]
  rw [if_neg h2]
  by_cases h3 : m' < m
  · rw [decide_eq_true h3, hj]
  rw [decide_eq_false h3]
  have hj1 : stepladderlaw15_GoodMore.j1 (k + 1) l m false = some true := by
    simp only [stepladderlaw15_GoodMore.j1]
    rw [if_neg (by decide), P.fair_f, P.may_f, GoodMore.zero (by omega)]
    simp
  have hf : (if S.fairB l n m = true then (some (S.fairB l n m')).bind fun t152 => stepladderlaw15_GoodMore.j1 (k + 1) l m (!t152) else stepladderlaw15_GoodMore.j1 (k + 1) l m false) = some true := by
    by_cases h : S.fairB l n m = true
    · rw [if_pos h, GoodMore.fair h (by omega)]
      exact hj1
    · rw [if_neg h]
      exact hj1
  simp only [stepladderlaw15_GoodMore.j0, P.good_f, P.fair_f]
  rw [if_neg (by decide)]
  simp only [Option.bind_some] at hf ⊢
  by_cases hg : S.goodB l m = true
  · rw [if_pos hg, if_pos (GoodMore.good hg (by omega))]
    exact hf
  · rw [if_neg hg]
    exact hf

theorem GoodMore : stepladderlaw15_GoodMore.Pure := fun l n m m' _ _ _ _ _ _ => ⟨301, GoodMore.all l n m m' 301 (by omega)⟩

end Go.Proofs.Ytfbhgbnpppbiiaa.Pure
