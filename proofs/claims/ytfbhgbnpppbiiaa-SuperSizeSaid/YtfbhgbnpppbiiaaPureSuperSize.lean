/- SuperSize: of each level there are taken, of those that have just it, as many as stand, with it, at the m-th last place of the next level, or behind it; if there are fewer than m of that, all. For every input. -/
import Derived.Test.YtfbhgbnpppbiiaaPC
import Derived.Test.YtfbhgbnpppbiiaaXstepladderlaw14SuperSize
namespace Go.Proofs.Ytfbhgbnpppbiiaa.Pure
open Go.RowKit Go.Proofs.Ytfbhgbnpppbiiaa.X Go.Proofs.YtfbhgbnpppbiiaaW.PrintWords Go.Proofs.YtfbhgbnpppbiiaaW.PrintLast

theorem SuperSize.next {i : Nat} (hi : i ≤ 1000000) : wrap64 ((i : Int) + 1) = ((i + 1 : Nat) : Int) := by rw [E.wrap_id (by omega) (by omega)]; omega

/-- How many places from one on, and before another, have just a level. -/
def SuperSize.just (l : List Int) (i hi n : Int) : List Int := (S.upZ l i hi n).filter fun x => decide (rd l x = n)
theorem SuperSize.just_mem {l : List Int} {i hi n x : Int} : x ∈ SuperSize.just l i hi n ↔ 0 ≤ x ∧ x < l.length ∧ i ≤ x ∧ x < hi ∧ rd l x = n := by
  unfold SuperSize.just
  rw [List.mem_filter, S.upZ_mem, decide_eq_true_eq]
  constructor
  · rintro ⟨⟨a, b, c, d, _⟩, f⟩; exact ⟨a, b, c, d, f⟩
  · rintro ⟨a, b, c, d, f⟩; exact ⟨⟨a, b, c, d, by omega⟩, f⟩
theorem SuperSize.just_up (l : List Int) (i hi n : Int) : S.Up (SuperSize.just l i hi n) := S.up_filter (S.upZ_up _ _ _ _) _
theorem SuperSize.just_end {l : List Int} {i hi n : Int} (h : hi ≤ i) : SuperSize.just l i hi n = [] := List.eq_nil_iff_forall_not_mem.2 fun x hx => by
  have := SuperSize.just_mem.1 hx
  omega
theorem SuperSize.just_has {l : List Int} {i hi n : Int} (h0 : 0 ≤ i) (h1 : i < l.length) (h2 : i < hi) (h3 : rd l i = n) : SuperSize.just l i hi n = i :: SuperSize.just l (i + 1) hi n := by
  refine S.up_ext (SuperSize.just_up _ _ _ _) (List.Pairwise.cons (fun x hx => ?_) (SuperSize.just_up _ _ _ _)) fun x => ?_
  · have := SuperSize.just_mem.1 hx; omega
  · rw [List.mem_cons, SuperSize.just_mem, SuperSize.just_mem]
    constructor
    · rintro ⟨a, b, c, d, f⟩
      by_cases e : x = i
      · exact .inl e
      · exact .inr ⟨a, b, by omega, d, f⟩
    · rintro (rfl | ⟨a, b, c, d, f⟩)
      · exact ⟨h0, h1, by omega, h2, h3⟩
      · exact ⟨a, b, by omega, d, f⟩
theorem SuperSize.just_skip {l : List Int} {i hi n : Int} (h3 : rd l i ≠ n) : SuperSize.just l i hi n = SuperSize.just l (i + 1) hi n := by
  refine S.up_ext (SuperSize.just_up _ _ _ _) (SuperSize.just_up _ _ _ _) fun x => ?_
  rw [SuperSize.just_mem, SuperSize.just_mem]
  constructor
  · rintro ⟨a, b, c, d, f⟩
    refine ⟨a, b, ?_, d, f⟩
    by_cases e : x = i
    · subst e; exact absurd f h3
    · omega
  · rintro ⟨a, b, c, d, f⟩; exact ⟨a, b, by omega, d, f⟩
theorem SuperSize.just_len (l : List Int) (i hi n : Int) : (SuperSize.just l i hi n).length ≤ l.length := Nat.le_trans (List.length_filter_le _ _) (S.upZ_len _ _ _ _)

theorem SuperSize.l1 (l : List Int) (m p n f : Int) (hl : l.length ≤ 210) (hp : 1 ≤ p) (hp1 : p < l.length) (hf : super_From.f l m p n = some f) (d : Nat) : ∀ (k i s : Nat) (t : Int), ((l.length : Int) - p - i).toNat = d → s ≤ i → (s : Int) + (SuperSize.just l i ((l.length : Int) - p) n).length = t → d < k →
    stepladderlaw14_SuperSize.l1 k l m p n f t s i = some true := by
  induction d with
  | zero =>
    intro k i s t hd hs ht hk
    obtain ⟨k, rfl⟩ : ∃ m, k = m + 1 := ⟨k - 1, by omega⟩
    rw [SuperSize.just_end (by omega)] at ht
    simp only [stepladderlaw14_SuperSize.l1]
    rw [E.wrap_id (x := (l.length : Int) - p) (by omega) (by omega), if_neg (by omega), if_pos (by simp at ht; omega), hf]
    simp
  | succ d ih =>
    intro k i s t hd hs ht hk
    obtain ⟨k, rfl⟩ : ∃ m, k = m + 1 := ⟨k - 1, by omega⟩
    have hc : ((i : Int) + 1) = ((i + 1 : Nat) : Int) := by omega
    simp only [stepladderlaw14_SuperSize.l1]
    rw [E.wrap_id (x := (l.length : Int) - p) (by omega) (by omega), if_pos (by omega), if_pos (by omega), if_pos (by omega), SuperSize.next (by omega), SuperSize.next (by omega)]
    by_cases h : rd l i = n
    · rw [SuperSize.just_has (by omega) (by omega) (by omega) h, List.length_cons, hc] at ht
      rw [if_pos h]
      exact ih k (i + 1) (s + 1) t (by omega) (by omega) (by omega) (by omega)
    · rw [SuperSize.just_skip h, hc] at ht
      rw [if_neg h]
      exact ih k (i + 1) s t (by omega) (by omega) ht (by omega)

theorem SuperSize.l0 (l : List Int) (m p n f : Int) (a : List Int) (_hl : l.length ≤ 210) (hal : a.length ≤ 210) (ha : ∀ x ∈ a, 0 ≤ x ∧ x < l.length) (t : Int) (K : Nat)
    (ht : ∀ k, K < k → stepladderlaw14_SuperSize.l1 k l m p n f t 0 f = some true) (d : Nat) : ∀ (k i s : Nat), a.length - i = d → i ≤ a.length → s ≤ i → (s : Int) + ((a.drop i).filter fun x => decide (rd l x = n)).length = t → 2 * d + 1 + K < k →
    stepladderlaw14_SuperSize.l0 k l m p n a f s i = some true := by
  induction d with
  | zero =>
    intro k i s hd hi hs hc hk
    obtain ⟨k, rfl⟩ : ∃ m, k = m + 1 := ⟨k - 1, by omega⟩
    rw [List.drop_of_length_le (by omega)] at hc
    have e : (s : Int) = t := by simpa using hc
    simp only [stepladderlaw14_SuperSize.l0]
    rw [if_neg (by omega), e]
    exact ht k (by omega)
  | succ d ih =>
    intro k i s hd hi hs hc hk
    obtain ⟨k, rfl⟩ : ∃ m, k = m + 1 + 1 := ⟨k - 2, by omega⟩
    have h1 : i < a.length := by omega
    have hx := ha _ (List.getElem_mem h1)
    rw [List.drop_eq_getElem_cons h1] at hc
    simp only [stepladderlaw14_SuperSize.l0]
    rw [if_pos (by omega), if_pos (by omega), rd_get h1, if_neg (by omega), decide_eq_false (by omega)]
    simp only [stepladderlaw14_SuperSize.j4]
    rw [if_neg (by decide), if_pos (by omega), if_pos (by omega), rd_get h1, if_pos (by omega), if_pos (by omega), SuperSize.next (by omega), SuperSize.next (by omega)]
    by_cases h : rd l a[i] = n
    · rw [List.filter_cons_of_pos (by simpa using h), List.length_cons] at hc
      rw [if_pos h]
      exact ih k (i + 1) (s + 1) (by omega) (by omega) (by omega) (by omega) (by omega)
    · rw [List.filter_cons_of_neg (by simpa using h)] at hc
      rw [if_neg h]
      exact ih k (i + 1) s (by omega) (by omega) (by omega) hc (by omega)

theorem SuperSize.taken {l : List Int} {m p n : Int} (_h : S.okB l m p = true) (hn : 0 ≤ n) : ((S.takenL l m p).filter fun x => decide (rd l x = n)) = SuperSize.just l (S.fromZ l m p n) ((l.length : Int) - p) n := by
  refine S.up_ext (S.up_filter (S.takenL_up _ _ _) _) (SuperSize.just_up _ _ _ _) fun x => ?_
  rw [List.mem_filter, S.takenL_mem, SuperSize.just_mem, decide_eq_true_eq]
  constructor
  · rintro ⟨⟨a, b, c, d, e⟩, f⟩
    rw [f] at e
    exact ⟨a, b, e, c, f⟩
  · rintro ⟨a, b, e, c, f⟩
    exact ⟨⟨a, b, c, by omega, by rw [f]; exact e⟩, f⟩

theorem SuperSize.all (l : List Int) (m p n : Int) (hm : (Lit.int .i64 m).wf = true) (k : Nat) (hk : 2000 < k) : stepladderlaw14_SuperSize.f k l m p n = some true := by
  obtain ⟨k, rfl⟩ : ∃ m, k = m + 1 + 1 + 1 := ⟨k - 3, by omega⟩
  have hj : stepladderlaw14_SuperSize.j0 (k + 1 + 1 + 1) l m p n true true = some true := by simp only [stepladderlaw14_SuperSize.j0, if_true]
  unfold stepladderlaw14_SuperSize.f
  rw [P.awake14 _ (by omega)]
  simp only [Option.bind_some, if_true]
  by_cases h1 : (l.length : Int) > 210
  · rw [if_pos h1, hj]
  rw [if_neg h1]
  by_cases h2 : n < 0
  · rw [if_pos h2, hj]
  rw [if_neg h2]
  by_cases h3 : n > 31
  · rw [if_pos h3, hj]
  rw [if_neg h3]
  by_cases h4 : m > 1000
  · rw [decide_eq_true h4, hj]
  rw [decide_eq_false h4]
  simp only [stepladderlaw14_SuperSize.j0]
  rw [if_neg (by decide), P.prefix_f _ _ _ hm]
  simp only [Option.bind_some]
  cases hok : S.okB l m p with
  | false =>
    rw [S.prefZ_bad hok]
    rfl
  | true =>
    obtain ⟨q0, q1, q2, q3⟩ := S.okB_parts hok
    have hlen := S.upZ_len l 0 ((l.length : Int) - p) (n + 1)
    have hfr := S.fromZ_range (n := n) hok
    have hj2 : stepladderlaw14_SuperSize.j2 (k + 1) l m p n (S.takenL l m p) (S.fromZ l m p n) = some true := by
      simp only [stepladderlaw14_SuperSize.j2]
      have ha := S.taken_len (l := l) (m := m) (k := p)
      rw [if_neg (by omega)]
      refine SuperSize.l0 l m p n _ (S.takenL l m p) (by omega) (by omega) (fun x hx => ?_) (SuperSize.just l (S.fromZ l m p n) ((l.length : Int) - p) n).length 700 (fun k hk => ?_) (S.takenL l m p).length k 0 0 (by omega) (by omega) (by omega) ?_ (by omega)
      · have := S.takenL_mem.1 hx
        exact ⟨this.1, this.2.1⟩
      · obtain ⟨j, hj⟩ : ∃ j : Nat, S.fromZ l m p n = j := ⟨(S.fromZ l m p n).toNat, by omega⟩
        have hff : super_From.f l m p n = some (j : Int) := by rw [P.from_f l m p n hm (by omega), hj]
        rw [hj] at hfr
        rw [hj]
        exact SuperSize.l1 l m p n j (by omega) q2 (by omega) hff _ k j 0 _ rfl (by omega) (by simp) (by omega)
      · rw [List.drop_zero, SuperSize.taken hok (by omega)]
        simp
    have hj1 : stepladderlaw14_SuperSize.j1 (k + 1 + 1) l m p n (S.takenL l m p) false = some true := by
      simp only [stepladderlaw14_SuperSize.j1]
      rw [if_neg (by decide), E.wrap_id (x := (l.length : Int) - p) (by omega) (by omega), E.wrap_id (x := n + 1) (by omega) (by omega), E.up_f l _ _ _ (by omega) (k + 1) (by omega)]
      simp only [Option.bind_some]
      rw [S.fromZ_is hok (by omega)] at hj2
      unfold S.mthLast at hj2
      by_cases c : m ≤ ((S.upZ l 0 ((l.length : Int) - p) (n + 1)).length : Int)
      · rw [if_pos c] at hj2
        rw [if_pos c, E.wrap_id (x := ((S.upZ l 0 ((l.length : Int) - p) (n + 1)).length : Int) - m) (by omega) (by omega), if_pos (by omega), if_pos (by omega)]
        exact hj2
      · rw [if_neg c] at hj2
        rw [if_neg c]
        exact hj2
    rw [S.prefZ_ok hok]
    simp only [if_true]
    rw [if_neg (by omega), if_neg (by omega), decide_eq_false (by omega)]
    exact hj1

theorem SuperSize : stepladderlaw14_SuperSize.Pure := fun l m p n _ _ _ hm _ _ => ⟨2001, SuperSize.all l m p n hm 2001 (by omega)⟩

end Go.Proofs.Ytfbhgbnpppbiiaa.Pure
