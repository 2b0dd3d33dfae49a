/- GoodFlat: levels that have none but the first one above 0 are good just if they are fewer than 4, or the m is above 1. For every input. -/
import Derived.Test.YtfbhgbnpppbiiaaPB
import Derived.Test.YtfbhgbnpppbiiaaXstepladderlaw15GoodFlat
namespace Go.Proofs.Ytfbhgbnpppbiiaa.Pure
open Go.RowKit Go.Proofs.Ytfbhgbnpppbiiaa.X Go.Proofs.YtfbhgbnpppbiiaaW.PrintWords Go.Proofs.YtfbhgbnpppbiiaaW.PrintLast

theorem GoodFlat.rd (n : Nat) (i : Int) (h0 : 0 ≤ i) (h1 : i < n) : rd ((List.replicate n (0 : Int)).set 0 31) i = if i = 0 then 31 else 0 := by
  obtain ⟨j, rfl⟩ : ∃ j : Nat, i = j := ⟨i.toNat, by omega⟩
  rw [rd_get (by simp; omega), List.getElem_set]
  by_cases h : j = 0
  · subst h; simp
  · rw [if_neg (Ne.symm h), if_neg (by omega), List.getElem_replicate]
theorem GoodFlat.may (n : Nat) (h0 : 1 ≤ n) (h1 : n ≤ 200) : S.mayB ((List.replicate n (0 : Int)).set 0 31) = true := by
  unfold S.mayB
  simp only [Bool.and_eq_true, decide_eq_true_eq, Bool.not_eq_true', List.any_eq_false, List.length_set, List.length_replicate]
  refine ⟨by omega, h1, by rw [GoodFlat.rd n 0 (by omega) (by omega)]; rfl, fun x hx => ?_⟩
  obtain ⟨j, hj, rfl⟩ := List.getElem_of_mem hx
  have hj' : j < n := by simpa using hj
  have := GoodFlat.rd n j (by omega) (by omega)
  rw [rd_get hj] at this
  rw [this]
  unfold S.oddB
  split <;> simp
theorem GoodFlat.cnt_up (n : Nat) (_h0 : 1 ≤ n) (v : Int) (hv : 1 ≤ v) (hv1 : v ≤ 31) (i : Int) (hi0 : 0 ≤ i) (hi : i < n) (hr : v ≤ Go.Proofs.YtfbhgbnpppbiiaaW.PrintWords.rd ((List.replicate n (0 : Int)).set 0 31) i) : i = 0 ∧ S.cntZ ((List.replicate n (0 : Int)).set 0 31) i v = 1 := by
  rw [GoodFlat.rd n i hi0 hi] at hr
  have hz : i = 0 := by
    by_cases h : i = 0
    · exact h
    · rw [if_neg h] at hr; omega
  subst hz
  refine ⟨rfl, ?_⟩
  have hl : ((List.replicate n (0 : Int)).set 0 31).length = n := by simp
  have e : S.upZ ((List.replicate n (0 : Int)).set 0 31) 0 (((List.replicate n (0 : Int)).set 0 31).length : Int) v = [0] := by
    refine S.up_ext (S.upZ_up _ _ _ _) (by simp) fun x => ?_
    rw [S.upZ_mem, hl, List.mem_singleton]
    constructor
    · rintro ⟨a, b, c, d, f⟩
      rw [GoodFlat.rd n x a (by omega)] at f
      by_cases h : x = 0
      · exact h
      · rw [if_neg h] at f; omega
    · rintro rfl
      exact ⟨by omega, by omega, by omega, by omega, by rw [GoodFlat.rd n 0 (by omega) (by omega)]; simp; omega⟩
  unfold S.cntZ
  rw [e]
  rfl
theorem GoodFlat.good (n : Nat) (m : Int) (h0 : 1 ≤ n) (h1 : n ≤ 200) (hm : 1 ≤ m) : S.goodB ((List.replicate n (0 : Int)).set 0 31) m = (decide (m > 1) || decide (n < 4)) := by
  have hmay := GoodFlat.may n h0 h1
  have hl : ((List.replicate n (0 : Int)).set 0 31).length = n := by simp
  have hall : S.cntZ ((List.replicate n (0 : Int)).set 0 31) 0 0 = n := by
    rw [S.cntZ_all (fun x a b => ((S.mayB_parts hmay).2.2.2 x a b).1) (Int.le_refl _) (by omega), hl]
    omega
  rw [Bool.eq_iff_iff, S.goodB_iff]
  simp only [Bool.or_eq_true, decide_eq_true_eq]
  constructor
  · rintro ⟨_, _, h⟩
    by_cases hm1 : m > 1
    · exact .inl hm1
    · right
      have hr : ((0 : Nat) : Int) + 1 ≤ Go.Proofs.YtfbhgbnpppbiiaaW.PrintWords.rd ((List.replicate n (0 : Int)).set 0 31) 0 := by rw [GoodFlat.rd n 0 (by omega) (by omega)]; simp
      have hc := GoodFlat.cnt_up n h0 1 (by omega) (by omega) 0 (by omega) (by omega) hr
      have := h 0 (by omega) 0 (by omega) (by omega) hr (by rw [show ((0 : Nat) : Int) + 1 = 1 from rfl, hc.2]; omega)
      rw [show ((0 : Nat) : Int) + 1 = 1 from rfl, hc.2, show ((0 : Nat) : Int) = 0 from rfl, hall] at this
      omega
  · intro h
    refine ⟨hmay, hm, fun v hv i i0 i1 hr hc => ?_⟩
    rw [hl] at i1
    have hc1 := GoodFlat.cnt_up n h0 ((v : Int) + 1) (by omega) (by omega) i i0 i1 hr
    rw [hc1.2] at hc ⊢
    obtain rfl := hc1.1
    have hn4 : n < 4 := by
      rcases h with h | h
      · omega
      · exact h
    cases v with
    | zero => rw [show ((0 : Nat) : Int) = 0 from rfl, hall]; omega
    | succ v =>
      have := GoodFlat.cnt_up n h0 ((v + 1 : Nat) : Int) (by omega) (by omega) 0 (by omega) (by omega) (by omega)
      rw [this.2]
      omega

theorem GoodFlat.all (n m : Int) (k : Nat) (hk : 300 < k) : stepladderlaw15_GoodFlat.f k n m = some true := by
  unfold stepladderlaw15_GoodFlat.f
  rw [P.awake15 _ (by omega)]
  simp only [Option.bind_some, if_true]
  by_cases h1 : n < 1
  · rw [if_pos h1]
  rw [if_neg h1]
  by_cases h2 : n > 200
  · rw [if_pos h2]
  rw [if_neg h2]
  by_cases h3 : m < 1
  · rw [if_pos h3]
  rw [if_neg h3, if_pos (by omega), if_pos (by omega), if_pos (by rw [List.length_replicate]; omega), P.good_f, show (0 : Int).toNat = 0 from rfl, GoodFlat.good n.toNat m (by omega) (by omega) (by omega)]
  simp only [Option.bind_some]
  by_cases h4 : m > 1
  · rw [if_pos h4, decide_eq_true h4]
    rfl
  · rw [if_neg h4, decide_eq_false h4, Bool.false_or]
    by_cases h5 : n < 4
    · rw [decide_eq_true h5, decide_eq_true (show n.toNat < 4 by omega)]
      rfl
    · rw [decide_eq_false h5, decide_eq_false (show ¬ n.toNat < 4 by omega)]
      rfl

theorem GoodFlat : stepladderlaw15_GoodFlat.Pure := fun n m _ _ => ⟨301, GoodFlat.all n m 301 (by omega)⟩

end Go.Proofs.Ytfbhgbnpppbiiaa.Pure
