/- GoodBounds: if the part ahead is good there are taken, of each level of whose next one it has m at least, fewer than 4 times m that have just it. For every input. -/
import Derived.Test.YtgjkjndfnjabeaaPB
import Derived.Test.YtgjkjndfnjabeaaXstepladderlaw15GoodBounds
namespace Go.Proofs.Ytgjkjndfnjabeaa.Pure
open Go.RowKit Go.Proofs.Ytgjkjndfnjabeaa.X Go.Proofs.YtgjkjndfnjabeaaW.PrintWords Go.Proofs.YtgjkjndfnjabeaaW.PrintLast

theorem GoodBounds.next {i : Nat} (hi : i ≤ 1000000) : wrap64 ((i : Int) + 1) = ((i + 1 : Nat) : Int) := by rw [E.wrap_id (by omega) (by omega)]; omega

/-- Of the part ahead the places are those of the whole that stand there. -/
theorem GoodBounds.up {l : List Int} {q : Nat} (hq : q ≤ l.length) (fr n : Int) : S.upZ (l.take q) fr ((l.take q).length : Int) n = S.upZ l fr q n := by
  have hlen : (l.take q).length = q := by rw [List.length_take]; omega
  refine S.up_ext (S.upZ_up _ _ _ _) (S.upZ_up _ _ _ _) fun x => ?_
  have hrd : 0 ≤ x → x < q → rd (l.take q) x = rd l x := fun a b => by
    rw [show x = (x.toNat : Int) from by omega, rd_get (by omega), rd_get (by omega), List.getElem_take]
  rw [S.upZ_mem, S.upZ_mem, hlen]
  constructor
  · rintro ⟨a, b, c, d, e⟩
    rw [hrd a b] at e
    exact ⟨a, by omega, c, d, e⟩
  · rintro ⟨a, b, c, d, e⟩
    exact ⟨a, d, c, d, by rw [hrd a d]; exact e⟩

/-- The bound. -/
theorem GoodBounds.bound {l : List Int} {m p n : Int} (hok : S.okB l m p = true) (h0 : 0 ≤ n) (h1 : n ≤ 30) (hg : S.goodB (l.take ((l.length : Int) - p).toNat) m = true) (hc : m ≤ S.cntZ (l.take ((l.length : Int) - p).toNat) 0 (n + 1)) :
    (((S.takenL l m p).filter fun x => decide (rd l x = n)).length : Int) < 4 * m := by
  obtain ⟨q0, q1, q2, q3⟩ := S.okB_parts hok
  have hq : ((l.length : Int) - p).toNat ≤ l.length := by omega
  have hqz : ((((l.length : Int) - p).toNat : Nat) : Int) = (l.length : Int) - p := by omega
  have hfz : S.fromZ l m p n = S.mthLast (S.upZ l 0 ((l.length : Int) - p) (n + 1)) m := S.fromZ_is hok (by omega)
  unfold S.cntZ at hc
  rw [GoodBounds.up hq, hqz] at hc
  have hup := S.upZ_up l 0 ((l.length : Int) - p) (n + 1)
  have hmem := S.mthLast_mem q1 hc
  have hcnt := S.mthLast_count hup q1 hc
  rw [← hfz] at hmem hcnt
  obtain ⟨f0, f1, _, f3, f4⟩ := S.upZ_mem.1 hmem
  rw [← S.upZ_filter l f0] at hcnt
  rw [S.goodB_iff] at hg
  obtain ⟨_, _, hg⟩ := hg
  have hlen : ((l.take ((l.length : Int) - p).toNat).length : Int) = (l.length : Int) - p := by rw [List.length_take]; omega
  have hrd : rd (l.take ((l.length : Int) - p).toNat) (S.fromZ l m p n) = rd l (S.fromZ l m p n) := by
    rw [show S.fromZ l m p n = ((S.fromZ l m p n).toNat : Int) from by omega, rd_get (by omega), rd_get (by omega), List.getElem_take]
  have := hg n.toNat (by omega) (S.fromZ l m p n) f0 (by omega) (by rw [hrd]; omega)
  rw [show ((n.toNat : Nat) : Int) = n from by omega] at this
  unfold S.cntZ at this
  rw [GoodBounds.up hq, GoodBounds.up hq, hqz, hcnt] at this
  have h4 := this (Int.le_refl _)
  have hsub := S.sub_len (a := (S.takenL l m p).filter fun x => decide (rd l x = n)) (b := S.upZ l (S.fromZ l m p n) ((l.length : Int) - p) n) (S.up_filter (S.takenL_up _ _ _) _) (S.upZ_up _ _ _ _) fun x hx => by
    rw [List.mem_filter, S.takenL_mem, decide_eq_true_eq] at hx
    obtain ⟨⟨a, b, c, d, e⟩, f⟩ := hx
    rw [f] at e
    rw [S.upZ_mem]
    exact ⟨a, b, e, c, by omega⟩
  omega

theorem GoodBounds.l0 (l : List Int) (m n : Int) (a : List Int) (hal : a.length ≤ 210) (hm0 : 1 ≤ m) (hm1 : m ≤ 1000) (ha : ∀ x ∈ a, 0 ≤ x ∧ x < l.length) (t : Nat) (ht : (t : Int) < 4 * m) (d : Nat) : ∀ (k i s : Nat), a.length - i = d → i ≤ a.length → s ≤ i → s + ((a.drop i).filter fun x => decide (rd l x = n)).length = t → 2 * d + 1 < k →
    stepladderlaw15_GoodBounds.l0 k l m n a s i = some true := by
  induction d with
  | zero =>
    intro k i s hd hi hs hc hk
    obtain ⟨k, rfl⟩ : ∃ m, k = m + 1 := ⟨k - 1, by omega⟩
    rw [List.drop_of_length_le (by omega)] at hc
    have e : s = t := by simpa using hc
    simp only [stepladderlaw15_GoodBounds.l0]
    rw [if_neg (by omega), E.wrap_id (x := 4 * m) (by omega) (by omega), decide_eq_true (by omega)]
  | succ d ih =>
    intro k i s hd hi hs hc hk
    obtain ⟨k, rfl⟩ : ∃ m, k = m + 1 + 1 := ⟨k - 2, by omega⟩
    have h1 : i < a.length := by omega
    have hx := ha _ (List.getElem_mem h1)
    rw [List.drop_eq_getElem_cons h1] at hc
    simp only [stepladderlaw15_GoodBounds.l0]
    rw [if_pos (by omega), if_pos (by omega), rd_get h1, if_neg (by omega), decide_eq_false (by omega)]
    simp only [stepladderlaw15_GoodBounds.j4]
    rw [if_neg (by decide), if_pos (by omega), if_pos (by omega), rd_get h1, if_pos (by omega), if_pos (by omega), GoodBounds.next (by omega), GoodBounds.next (by omega)]
    by_cases h : rd l a[i] = n
    · rw [List.filter_cons_of_pos (by simpa using h), List.length_cons] at hc
      rw [if_pos h]
      exact ih k (i + 1) (s + 1) (by omega) (by omega) (by omega) (by omega) (by omega)
    · rw [List.filter_cons_of_neg (by simpa using h)] at hc
      rw [if_neg h]
      exact ih k (i + 1) s (by omega) (by omega) (by omega) hc (by omega)

theorem GoodBounds.all (l : List Int) (m p n : Int) (hm : (Lit.int .i64 m).wf = true) (k : Nat) (hk : 2000 < k) : stepladderlaw15_GoodBounds.f k l m p n = some true := by
  obtain ⟨k, rfl⟩ : ∃ m, k = m + 1 + 1 + 1 := ⟨k - 3, by omega⟩
  have hj : stepladderlaw15_GoodBounds.j0 (k + 1 + 1 + 1) l m p n true true = some true := by simp only [stepladderlaw15_GoodBounds.j0, if_true]
  unfold stepladderlaw15_GoodBounds.f
  rw [P.awake15 _ (by omega)]
  simp only [Option.bind_some, if_true]
  by_cases h1 : (l.length : Int) > 210
  · rw [if_pos h1, hj]
  rw [if_neg h1]
  by_cases h2 : n < 0
  · rw [if_pos h2, hj]
  rw [if_neg h2]
  by_cases h3 : n > 30
  · rw [if_pos h3, hj]
  rw [if_neg h3]
  by_cases h4 : m > 1000
  · rw [decide_eq_true h4, hj]
  rw [decide_eq_false h4]
  simp only [stepladderlaw15_GoodBounds.j0]
  rw [if_neg (by decide), P.prefix_f _ _ _ hm]
  simp only [Option.bind_some]
  have hj2t : ∀ a, stepladderlaw15_GoodBounds.j2 (k + 1) l m n a true = some true := fun a => by simp only [stepladderlaw15_GoodBounds.j2, if_true]
  cases hok : S.okB l m p with
  | false =>
    rw [S.prefZ_bad hok]
    simp only
    rw [if_neg (by decide)]
    simp only [stepladderlaw15_GoodBounds.j1]
    rw [if_neg (by decide), if_neg (by decide), hj2t]
  | true =>
    obtain ⟨q0, q1, q2, q3⟩ := S.okB_parts hok
    rw [S.prefZ_ok hok]
    simp only [if_true]
    rw [if_neg (by omega), if_neg (by omega), decide_eq_false (by omega)]
    simp only [stepladderlaw15_GoodBounds.j1]
    rw [if_neg (by decide), if_pos trivial, E.wrap_id (x := (l.length : Int) - p) (by omega) (by omega), if_pos (by omega), if_pos (by omega), P.good_f]
    simp only [Option.bind_some]
    by_cases hg : S.goodB (l.take ((l.length : Int) - p).toNat) m = true
    · rw [if_pos hg, E.wrap_id (x := n + 1) (by omega) (by omega), P.count _ _ _ (by rw [List.length_take]; omega) (k + 1) (by rw [List.length_take]; omega)]
      simp only [Option.bind_some]
      by_cases hc : S.cntZ (l.take ((l.length : Int) - p).toNat) 0 (n + 1) < m
      · rw [decide_eq_true hc, hj2t]
      · rw [decide_eq_false hc]
        simp only [stepladderlaw15_GoodBounds.j2]
        rw [if_neg (by decide)]
        have ha := S.taken_len (l := l) (m := m) (k := p)
        have hb := GoodBounds.bound (n := n) hok (by omega) (by omega) hg (by omega)
        exact GoodBounds.l0 l m n (S.takenL l m p) (by omega) q1 (by omega) (fun x hx => by have := S.takenL_mem.1 hx; exact ⟨this.1, this.2.1⟩) ((S.takenL l m p).filter fun x => decide (rd l x = n)).length hb (S.takenL l m p).length k 0 0 (by omega) (by omega) (by omega) (by simp) (by omega)
    · rw [if_neg hg, hj2t]

theorem GoodBounds : stepladderlaw15_GoodBounds.Pure := fun l m p n _ _ _ hm _ _ => ⟨2001, GoodBounds.all l m p n hm 2001 (by omega)⟩

end Go.Proofs.Ytgjkjndfnjabeaa.Pure
