/- GoodFair: what is fair of a level has, from each of its places on from which on there are m, at least one in each so many; each level of which there are fewer than m is fair. For every input. -/
import Derived.Test.YtfbhgbnpppbiiaaPB
import Derived.Test.YtfbhgbnpppbiiaaXstepladderlaw15GoodFair
namespace Go.Proofs.Ytfbhgbnpppbiiaa.Pure
open Go.RowKit Go.Proofs.Ytfbhgbnpppbiiaa.X Go.Proofs.YtfbhgbnpppbiiaaW.PrintWords Go.Proofs.YtfbhgbnpppbiiaaW.PrintLast

theorem GoodFair.few {l : List Int} {n m : Int} (hmay : S.mayB l = true) (h0 : 0 ≤ n) (h1 : n ≤ 31) (hm : 1 ≤ m) (h : S.cntZ l 0 n < m) : S.fairB l n m = true := by
  rw [S.fairB_iff]
  exact ⟨hmay, h0, h1, hm, fun i i0 i1 _ h3 => by have := S.cntZ_mono (l := l) (i := i) (i' := 0) (n := n) (n' := n) i0 (Int.le_refl _); omega⟩

theorem GoodFair.pow_bound {d : Nat} (h : d ≤ 32) : (1 : Int) ≤ 2 ^ d ∧ (2 : Int) ^ d ≤ 4294967296 := by
  have h2 : (2 : Nat) ^ d ≤ 2 ^ 32 := Nat.pow_le_pow_right (by omega) h
  have h1 : 1 ≤ (2 : Nat) ^ d := Nat.one_le_two_pow
  have h3 : ((2 : Int) ^ d) = ((2 ^ d : Nat) : Int) := by rw [Int.natCast_pow]; rfl
  rw [h3]
  exact ⟨Int.ofNat_le.2 h1, Int.ofNat_le.2 h2⟩

theorem GoodFair.l0 (l : List Int) (n i c : Int) (hl : l.length ≤ 210) (hn : n ≤ 31) (hi : 0 ≤ i) (hil : i ≤ 210) (hc : 0 ≤ c) (hc1 : c ≤ 210) (d : Nat) : ∀ (k j : Nat), (j : Int) + d = n → d < k →
    stepladderlaw15_GoodFair.l0 k l n i c (2 ^ (j + 1)) j = some (decide ((l.length : Int) - i < c * 2 ^ (n + 1).toNat)) := by
  induction d with
  | zero =>
    intro k j hj hk
    obtain ⟨k, rfl⟩ : ∃ m, k = m + 1 := ⟨k - 1, by omega⟩
    simp only [stepladderlaw15_GoodFair.l0]
    rw [if_neg (by omega)]
    have e : (n + 1).toNat = j + 1 := by omega
    rw [e, Int.mul_comm, E.shift_small hc (by omega) (by omega), E.wrap_id (by omega) (by omega)]
  | succ d ih =>
    intro k j hj hk
    obtain ⟨k, rfl⟩ : ∃ m, k = m + 1 := ⟨k - 1, by omega⟩
    simp only [stepladderlaw15_GoodFair.l0]
    have hp := GoodFair.pow_bound (d := j + 1) (by omega)
    rw [if_pos (by omega), E.wrap_id (x := 2 * 2 ^ (j + 1)) (by omega) (by omega), E.wrap_id (x := (j : Int) + 1) (by omega) (by omega),
      show (2 : Int) * 2 ^ (j + 1) = 2 ^ (j + 1 + 1) from by rw [Int.pow_succ 2 (j + 1), Int.mul_comm], show (j : Int) + 1 = ((j + 1 : Nat) : Int) from by omega]
    exact ih k (j + 1) (by omega) (by omega)

theorem GoodFair.all (l : List Int) (n m i : Int) (hl : l.length * 8 ≤ 140737488351232) (k : Nat) (hk : 300 < k) : stepladderlaw15_GoodFair.f k l n m i = some true := by
  obtain ⟨k, rfl⟩ : ∃ m, k = m + 1 + 1 + 1 := ⟨k - 3, by omega⟩
  have hj : stepladderlaw15_GoodFair.j0 (k + 1 + 1 + 1) l n m i true true = some true := by simp only [stepladderlaw15_GoodFair.j0, if_true]
  unfold stepladderlaw15_GoodFair.f
  rw [P.awake15 _ (by omega)]
  simp only [Option.bind_some, if_true]
  by_cases h1 : (l.length : Int) > 210
  · rw [if_pos h1, hj]
  rw [if_neg h1]
  by_cases h2 : n < 0
  · rw [if_pos h2, hj]
  rw [if_neg h2]
  by_cases h3 : n > 31
  · rw [if_pos h3, hj]
  rw [if_neg h3]
  by_cases h4 : m < 1
  · rw [if_pos h4, hj]
  rw [if_neg h4, P.may_f]
  simp only [Option.bind_some]
  cases hmay : S.mayB l with
  | false => exact hj
  | true =>
  have hj1 : stepladderlaw15_GoodFair.j1 (k + 1 + 1) l n m i false = some true := by
    have hj2 : stepladderlaw15_GoodFair.j2 (k + 1) l n i (S.cntZ l i n) true = some true := by simp only [stepladderlaw15_GoodFair.j2, if_true]
    simp only [stepladderlaw15_GoodFair.j1]
    rw [if_neg (by decide), P.count l i n (by omega) (k + 1) (by omega), P.fair_f]
    simp only [Option.bind_some]
    by_cases hf : S.fairB l n m = true
    · rw [if_pos hf]
      by_cases i0 : i < 0
      · rw [if_pos i0, hj2]
      rw [if_neg i0]
      by_cases i1 : i ≥ (l.length : Int)
      · rw [if_pos i1, hj2]
      rw [if_neg i1, if_pos (by omega), if_pos (by omega)]
      by_cases i2 : rd l i < n
      · rw [if_pos i2, hj2]
      rw [if_neg i2]
      by_cases i3 : S.cntZ l i n < m
      · rw [decide_eq_true i3, hj2]
      rw [decide_eq_false i3]
      simp only [stepladderlaw15_GoodFair.j2]
      have hcl : S.cntZ l i n ≤ 210 := by
        unfold S.cntZ
        have := S.upZ_len l i (l.length : Int) n
        omega
      have := GoodFair.l0 l n i (S.cntZ l i n) (by omega) (by omega) (by omega) (by omega) (S.cntZ_nonneg _ _ _) hcl n.toNat k 0 (by omega) (by omega)
      rw [if_neg (by decide)]
      refine this.trans ?_
      rw [decide_eq_true ((S.fairB_iff.1 hf).2.2.2.2 i (by omega) (by omega) (by omega) (by omega))]
    · rw [if_neg hf, hj2]
  simp only [stepladderlaw15_GoodFair.j0]
  rw [if_neg (by decide), P.count l 0 n (by omega) (k + 1 + 1) (by omega)]
  simp only [Option.bind_some]
  by_cases hc : S.cntZ l 0 n < m
  · rw [if_pos hc, P.fair_f, GoodFair.few hmay (by omega) (by omega) (by omega) hc]
    exact hj1
  · rw [if_neg hc]
    exact hj1

theorem GoodFair : stepladderlaw15_GoodFair.Pure := fun l n m i _ hl _ _ _ _ => ⟨301, GoodFair.all l n m i hl 301 (by omega)⟩

end Go.Proofs.Ytfbhgbnpppbiiaa.Pure
