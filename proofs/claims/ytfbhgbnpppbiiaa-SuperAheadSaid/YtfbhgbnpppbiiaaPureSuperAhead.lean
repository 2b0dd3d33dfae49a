/- SuperAhead: what is taken goes by the part ahead alone: the last k levels, whatever they are, change nothing. For every input. -/
import Derived.Test.YtfbhgbnpppbiiaaPC
import Derived.Test.YtfbhgbnpppbiiaaXstepladderlaw14SuperAhead
namespace Go.Proofs.Ytfbhgbnpppbiiaa.Pure
open Go.RowKit Go.Proofs.Ytfbhgbnpppbiiaa.X Go.Proofs.YtfbhgbnpppbiiaaW.PrintWords Go.Proofs.YtfbhgbnpppbiiaaW.PrintLast

theorem SuperAhead.may_of {l : List Int} (h0 : 0 < l.length) (h1 : l.length ≤ 200) (h2 : rd l 0 = 31) (h3 : ∀ x : Int, 0 ≤ x → x < l.length → 0 ≤ rd l x ∧ rd l x ≤ 31) : S.mayB l = true := by
  unfold S.mayB
  simp only [Bool.and_eq_true, decide_eq_true_eq, Bool.not_eq_true', List.any_eq_false]
  refine ⟨h0, h1, h2, fun x hx => ?_⟩
  obtain ⟨j, hj, rfl⟩ := List.getElem_of_mem hx
  have := h3 j (by omega) (by omega)
  rw [rd_get hj] at this
  unfold S.oddB
  simp
  omega
theorem SuperAhead.rd_set (l : List Int) {i x : Int} (n : Int) (hi : 0 ≤ i) (hx : 0 ≤ x) (hne : x ≠ i) : Go.Proofs.YtfbhgbnpppbiiaaW.PrintWords.rd (l.set i.toNat n) x = Go.Proofs.YtfbhgbnpppbiiaaW.PrintWords.rd l x := by
  simp only [Go.Proofs.YtfbhgbnpppbiiaaW.PrintWords.rd, List.getD_eq_getElem?_getD]
  rw [List.getElem?_set_ne (by omega)]
theorem SuperAhead.rd_at (l : List Int) {i : Int} (n : Int) (hi : 0 ≤ i) (hl : i < l.length) : Go.Proofs.YtfbhgbnpppbiiaaW.PrintWords.rd (l.set i.toNat n) i = n := by
  simp only [Go.Proofs.YtfbhgbnpppbiiaaW.PrintWords.rd, List.getD_eq_getElem?_getD]
  rw [List.getElem?_set_self (by omega)]
  rfl
theorem SuperAhead.may {l : List Int} (h : S.mayB l = true) {i n : Int} (hi : 1 ≤ i) (hil : i < l.length) (hn : 0 ≤ n) (hn1 : n ≤ 31) : S.mayB (l.set i.toNat n) = true := by
  obtain ⟨h0, h1, h2, h3⟩ := S.mayB_parts h
  refine SuperAhead.may_of (by simpa using h0) (by simpa using h1) (by rw [SuperAhead.rd_set l n (by omega) (by omega) (by omega)]; exact h2) fun x x0 x1 => ?_
  rw [List.length_set] at x1
  by_cases e : x = i
  · subst e; rw [SuperAhead.rd_at l n x0 x1]; exact ⟨hn, hn1⟩
  · rw [SuperAhead.rd_set l n (by omega) x0 e]; exact h3 x x0 x1
theorem SuperAhead.up (l : List Int) {i : Int} (n : Int) (hi : 0 ≤ i) (hb fr v : Int) (h : hb ≤ i) : S.upZ (l.set i.toNat n) fr hb v = S.upZ l fr hb v := by
  refine S.up_ext (S.upZ_up _ _ _ _) (S.upZ_up _ _ _ _) fun x => ?_
  rw [S.upZ_mem, S.upZ_mem, List.length_set]
  constructor
  · rintro ⟨a, b, c, d, e⟩
    rw [SuperAhead.rd_set l n hi a (by omega)] at e
    exact ⟨a, b, c, d, e⟩
  · rintro ⟨a, b, c, d, e⟩
    exact ⟨a, b, c, d, by rw [SuperAhead.rd_set l n hi a (by omega)]; exact e⟩
theorem SuperAhead.taken {l : List Int} {m p : Int} (h : S.okB l m p = true) {i n : Int} (hi : 1 ≤ i) (hil : i < l.length) (hip : (l.length : Int) - p ≤ i) (hn : 0 ≤ n) (hn1 : n ≤ 31) :
    S.okB (l.set i.toNat n) m p = true ∧ S.takenL (l.set i.toNat n) m p = S.takenL l m p := by
  obtain ⟨q0, q1, q2, q3⟩ := S.okB_parts h
  have hmay := SuperAhead.may q0 hi hil hn hn1
  have hok : S.okB (l.set i.toNat n) m p = true := S.okB_iff.2 ⟨hmay, q1, q2, by rw [List.length_set]; exact q3⟩
  refine ⟨hok, S.up_ext (S.takenL_up _ _ _) (S.takenL_up _ _ _) fun x => ?_⟩
  rw [S.takenL_mem, S.takenL_mem, List.length_set]
  have hrd : 0 ≤ x → x < (l.length : Int) - p → Go.Proofs.YtfbhgbnpppbiiaaW.PrintWords.rd (l.set i.toNat n) x = Go.Proofs.YtfbhgbnpppbiiaaW.PrintWords.rd l x := fun a b => SuperAhead.rd_set l n (by omega) a (by omega)
  have hfr : 0 ≤ x → x < (l.length : Int) - p → S.fromZ (l.set i.toNat n) m p (Go.Proofs.YtfbhgbnpppbiiaaW.PrintWords.rd l x) = S.fromZ l m p (Go.Proofs.YtfbhgbnpppbiiaaW.PrintWords.rd l x) := fun a b => by
    have hle := ((S.mayB_parts q0).2.2.2 x a (by omega)).2
    rw [S.fromZ_is hok hle, S.fromZ_is h hle, List.length_set, SuperAhead.up l n (by omega) _ _ _ hip]
  constructor
  · rintro ⟨a, b, c, d, e⟩
    rw [hrd a c] at d e
    rw [hfr a c] at e
    exact ⟨a, b, c, d, e⟩
  · rintro ⟨a, b, c, d, e⟩
    rw [hrd a c, hfr a c]
    exact ⟨a, b, c, d, e⟩

theorem SuperAhead.all (l : List Int) (m p i n : Int) (hm : (Lit.int .i64 m).wf = true) (k : Nat) (hk : 1000 < k) : stepladderlaw14_SuperAhead.f k l m p i n = some true := by
  obtain ⟨k, rfl⟩ : ∃ m, k = m + 1 + 1 := ⟨k - 2, by omega⟩
  have hj : stepladderlaw14_SuperAhead.j0 (k + 1 + 1) l m p i n true true = some true := by simp only [stepladderlaw14_SuperAhead.j0, if_true]
  unfold stepladderlaw14_SuperAhead.f
  rw [P.awake14 _ (by omega)]
  simp only [Option.bind_some, if_true]
  by_cases h1 : (l.length : Int) > 210
  · rw [if_pos h1, hj]
  rw [if_neg h1]
  by_cases h2 : i < 0
  · rw [if_pos h2, hj]
  rw [if_neg h2]
  by_cases h3 : i ≥ (l.length : Int)
  · rw [if_pos h3, hj]
  rw [if_neg h3]
  by_cases h4 : n < 0
  · rw [if_pos h4, hj]
  rw [if_neg h4]
  by_cases h5 : n > 31
  · rw [decide_eq_true h5, hj]
  rw [decide_eq_false h5]
  simp only [stepladderlaw14_SuperAhead.j0]
  rw [if_neg (by decide), P.prefix_f _ _ _ hm]
  simp only [Option.bind_some]
  cases hok : S.okB l m p with
  | false =>
    rw [S.prefZ_bad hok]
    simp only
    rw [if_neg (by decide)]
    simp only [stepladderlaw14_SuperAhead.j1, if_true]
  | true =>
    obtain ⟨q0, q1, q2, q3⟩ := S.okB_parts hok
    rw [S.prefZ_ok hok]
    simp only [if_true]
    have hj1 : stepladderlaw14_SuperAhead.j1 (k + 1) l m p i n (S.takenL l m p) true = some true := by simp only [stepladderlaw14_SuperAhead.j1, if_true]
    rw [E.wrap_id (x := (l.length : Int) - p) (by omega) (by omega)]
    by_cases c1 : i < (l.length : Int) - p
    · rw [if_pos c1, hj1]
    rw [if_neg c1]
    by_cases c2 : i = 0
    · rw [show (i == 0) = true from by simpa using c2, hj1]
    rw [show (i == 0) = false from by simpa using c2]
    obtain ⟨hok', ht⟩ := SuperAhead.taken hok (i := i) (n := n) (by omega) (by omega) (by omega) (by omega) (by omega)
    have hlen := S.taken_len (l := l) (m := m) (k := p)
    simp only [stepladderlaw14_SuperAhead.j1]
    rw [if_neg (by decide), if_pos (by simp; omega), Option.bind_some, List.nil_append, if_pos (by omega), if_pos (by omega), P.prefix_f _ _ _ hm, S.prefZ_ok hok', ht]
    simp only [Option.bind_some]
    rw [P.ints _ _ (by omega) k (by omega)]
    simp

theorem SuperAhead : stepladderlaw14_SuperAhead.Pure := fun l m p i n _ _ _ hm _ _ _ => ⟨1001, SuperAhead.all l m p i n hm 1001 (by omega)⟩

end Go.Proofs.Ytfbhgbnpppbiiaa.Pure
