/- What the statements' small helpers come to: the same lists? is a number one of some? And super's, as the print has them. -/
import Derived.Test.YtgjkjndfnjabeaaE4
import Derived.Test.YtgjkjndfnjabeaaXstepladderref12Ints
import Derived.Test.YtgjkjndfnjabeaaXsuperPrefix
namespace Go.Proofs.Ytgjkjndfnjabeaa.X
open Go.RowKit Go.Proofs.YtgjkjndfnjabeaaW.PrintWords

theorem P.wf_bounds {x : Int} (h : (Lit.int .i64 x).wf = true) : -9223372036854775808 ≤ x ∧ x ≤ 9223372036854775807 := by
  simpa [Lit.wf, IntKind.min, IntKind.max, IntKind.signed, IntKind.bits] using h

theorem P.ints_l0 (a b : List Int) (ha : a.length ≤ 1000000) (hab : a.length = b.length) (d : Nat) : ∀ (k i : Nat), a.length - i = d → i ≤ a.length → d < k →
    stepladderref12_Ints.l0 k a b i = some (decide (a.drop i = b.drop i)) := by
  induction d with
  | zero =>
    intro k i hd hi hk
    obtain ⟨k, rfl⟩ : ∃ m, k = m + 1 := ⟨k - 1, by omega⟩
    simp only [stepladderref12_Ints.l0]
    rw [if_neg (by omega), List.drop_of_length_le (by omega), List.drop_of_length_le (by omega)]
    rfl
  | succ d ih =>
    intro k i hd hi hk
    obtain ⟨k, rfl⟩ : ∃ m, k = m + 1 := ⟨k - 1, by omega⟩
    have h1 : i < a.length := by omega
    have h2 : i < b.length := by omega
    simp only [stepladderref12_Ints.l0]
    rw [if_pos (by omega), if_pos (by omega), if_pos (by omega), rd_get h1, rd_get h2, List.drop_eq_getElem_cons h1, List.drop_eq_getElem_cons h2]
    have hw : wrap64 ((i : Int) + 1) = ((i + 1 : Nat) : Int) := by rw [E.wrap_id (by omega) (by omega)]; omega
    by_cases h : a[i] = b[i]
    · rw [if_pos h, hw, ih k (i + 1) (by omega) (by omega) (by omega)]
      congr 1
      rw [decide_eq_decide, h]
      constructor
      · intro e; rw [e]
      · intro e; injection e
    · rw [if_neg h]
      congr 1
      symm
      rw [decide_eq_false_iff_not]
      intro e
      injection e with e1 e2
      exact h e1
theorem P.ints (a b : List Int) (ha : a.length ≤ 1000000) (k : Nat) (hk : a.length + 1 < k) : stepladderref12_Ints.f k a b = some (decide (a = b)) := by
  unfold stepladderref12_Ints.f
  by_cases h : (a.length : Int) = (b.length : Int)
  · rw [if_pos h, show (0 : Int) = ((0 : Nat) : Int) from rfl, P.ints_l0 a b ha (by omega) a.length k 0 (by omega) (by omega) (by omega)]
    simp
  · rw [if_neg h]
    congr 1
    symm
    rw [decide_eq_false_iff_not]
    intro e
    rw [e] at h
    exact h rfl

theorem P.prefix_f (l : List Int) (m k : Int) (hm : (Lit.int .i64 m).wf = true) : super_Prefix.f l m k = some (S.prefZ l m k) := by
  unfold super_Prefix.f
  rw [if_pos (P.wf_bounds hm).2]
theorem P.may_f (l : List Int) : super_May.f l = some (S.mayB l) := rfl

/-- Of From and Prefix, where something can be taken. -/
theorem S.fromZ_bad {l : List Int} {m k n : Int} (h : S.okB l m k = false) : S.fromZ l m k n = -1 := by unfold S.fromZ; rw [h]; rfl
theorem S.fromZ_range {l : List Int} {m k n : Int} (h : S.okB l m k = true) : 0 ≤ S.fromZ l m k n ∧ S.fromZ l m k n < (l.length : Int) - k ∧ (S.fromZ l m k n = 0 ∨ n + 1 ≤ rd l (S.fromZ l m k n)) := by
  obtain ⟨h0, h1, h2, h3⟩ := S.okB_parts h
  unfold S.fromZ
  rw [if_pos h]
  by_cases hn : 31 < n
  · rw [if_pos hn]
    exact ⟨by omega, by omega, .inl rfl⟩
  · rw [if_neg hn]
    by_cases hm : m ≤ ((S.upZ l 0 ((l.length : Int) - k) (n + 1)).length : Int)
    · have := S.upZ_mem.1 (S.mthLast_mem h1 hm)
      exact ⟨this.1, this.2.2.2.1, .inr this.2.2.2.2⟩
    · unfold S.mthLast
      rw [if_neg hm]
      exact ⟨by omega, by omega, .inl rfl⟩
theorem S.prefZ_ok {l : List Int} {m k : Int} (h : S.okB l m k = true) : S.prefZ l m k = (S.takenL l m k, true) := by unfold S.prefZ; rw [if_pos h]
theorem S.prefZ_bad {l : List Int} {m k : Int} (h : S.okB l m k = false) : S.prefZ l m k = ([], false) := by unfold S.prefZ; rw [h]; rfl
theorem S.okB_iff {l : List Int} {m k : Int} : S.okB l m k = true ↔ S.mayB l = true ∧ 1 ≤ m ∧ 1 ≤ k ∧ k < (l.length : Int) := by
  unfold S.okB
  simp
theorem S.taken_zero {l : List Int} {m k : Int} (h : S.okB l m k = true) : (0 : Int) ∈ S.takenL l m k := by
  obtain ⟨h0, h1, h2, h3⟩ := S.okB_parts h
  obtain ⟨h4, _, h6, _⟩ := S.mayB_parts h0
  rw [S.takenL_mem, h6]
  refine ⟨Int.le_refl _, by omega, by omega, by omega, ?_⟩
  have e : S.upZ l 0 ((l.length : Int) - k) (31 + 1) = [] := by
    refine List.eq_nil_iff_forall_not_mem.2 fun x hx => ?_
    obtain ⟨a, b, _, _, c⟩ := S.upZ_mem.1 hx
    have := (S.mayB_parts h0).2.2.2 x a b
    omega
  rw [S.fromZ_is h (by omega), e]
  unfold S.mthLast
  rw [if_neg (by simp; omega)]
  omega
theorem S.taken_len {l : List Int} {m k : Int} : (S.takenL l m k).length ≤ l.length := by
  unfold S.takenL
  exact Nat.le_trans (List.length_filter_le _ _) (S.upFrom_len _ _ _ _ _)
theorem S.upZ_len (l : List Int) (fr hi n : Int) : (S.upZ l fr hi n).length ≤ l.length := S.upFrom_len _ _ _ _ _

/-- A rising list all of whose numbers are another's is no longer. -/
theorem S.sub_len {a b : List Int} (ha : S.Up a) (hb : S.Up b) (h : ∀ x ∈ a, x ∈ b) : a.length ≤ b.length := by
  have e : a = b.filter fun x => decide (x ∈ a) := by
    refine S.up_ext ha (S.up_filter hb _) fun x => ?_
    rw [List.mem_filter, decide_eq_true_eq]
    exact ⟨fun hx => ⟨h x hx, hx⟩, fun hx => hx.2⟩
  rw [e]
  exact List.length_filter_le _ _
/-- The numbers below one. -/
def S.below (n : Int) : List Int := (List.range n.toNat).map fun j : Nat => (j : Int)
theorem S.below_up (n : Int) : S.Up (S.below n) := by
  unfold S.below
  refine List.Pairwise.map _ (fun a b h => ?_) List.pairwise_lt_range
  exact Int.ofNat_lt.2 h
theorem S.below_mem {n x : Int} : x ∈ S.below n ↔ 0 ≤ x ∧ x < n := by
  unfold S.below
  rw [List.mem_map]
  constructor
  · rintro ⟨j, hj, rfl⟩
    have := List.mem_range.1 hj
    omega
  · intro h
    exact ⟨x.toNat, List.mem_range.2 (by omega), by omega⟩
theorem S.below_len (n : Int) : (S.below n).length = n.toNat := by simp [S.below]
theorem S.mthLast_more {U : List Int} (h : S.Up U) (h0 : ∀ x ∈ U, 0 ≤ x) {m m' : Int} (h1 : 1 ≤ m) (hm : m ≤ m') : S.mthLast U m' ≤ S.mthLast U m := by
  by_cases hu' : m' ≤ (U.length : Int)
  · unfold S.mthLast
    rw [if_pos hu', if_pos (by omega)]
    by_cases e : m = m'
    · subst e; exact Int.le_refl _
    · have := S.up_rd h (i := (U.length - m'.toNat)) (j := (U.length - m.toNat)) (by omega) (by omega)
      rw [show ((U.length - m'.toNat : Nat) : Int) = (U.length : Int) - m' from by omega, show ((U.length - m.toNat : Nat) : Int) = (U.length : Int) - m from by omega] at this
      omega
  · have e : S.mthLast U m' = 0 := by unfold S.mthLast; rw [if_neg hu']
    rw [e]
    by_cases hu : m ≤ (U.length : Int)
    · exact h0 _ (S.mthLast_mem h1 hu)
    · unfold S.mthLast; rw [if_neg hu]; omega
theorem S.taken_more {l : List Int} {m m' k : Int} (h : S.okB l m k = true) (hm : m ≤ m') (x : Int) (hx : x ∈ S.takenL l m k) : x ∈ S.takenL l m' k := by
  obtain ⟨h0, h1, h2, h3⟩ := S.okB_parts h
  have h' : S.okB l m' k = true := S.okB_iff.2 ⟨h0, by omega, h2, h3⟩
  rw [S.takenL_mem] at hx ⊢
  obtain ⟨x0, x1, x2, x3, x4⟩ := hx
  have hl := (S.mayB_parts h0).2.2.2 x x0 x1
  refine ⟨x0, x1, x2, x3, Int.le_trans ?_ x4⟩
  rw [S.fromZ_is h hl.2, S.fromZ_is h' hl.2]
  exact S.mthLast_more (S.upZ_up _ _ _ _) (fun y hy => (S.upZ_mem.1 hy).1) h1 hm
theorem S.taken_ahead (l : List Int) (m k : Int) : (S.takenL l m k).length ≤ ((l.length : Int) - k).toNat := by
  rw [← S.below_len]
  exact S.sub_len (S.takenL_up _ _ _) (S.below_up _) fun x hx => S.below_mem.2 (by have := S.takenL_mem.1 hx; exact ⟨this.1, this.2.2.1⟩)

end Go.Proofs.Ytgjkjndfnjabeaa.X
