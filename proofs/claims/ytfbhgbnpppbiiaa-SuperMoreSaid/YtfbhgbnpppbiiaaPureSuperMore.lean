/- SuperMore: with a greater m no fewer are taken; what is taken with one m is with a greater one. For every input. -/
import Derived.Test.YtfbhgbnpppbiiaaPC
import Derived.Test.YtfbhgbnpppbiiaaXstepladderlaw14SuperMore
namespace Go.Proofs.Ytfbhgbnpppbiiaa.Pure
open Go.RowKit Go.Proofs.Ytfbhgbnpppbiiaa.X Go.Proofs.YtfbhgbnpppbiiaaW.PrintWords Go.Proofs.YtfbhgbnpppbiiaaW.PrintLast

theorem SuperMore.l0 (l a b : List Int) (p : Int) (ha : a.length ≤ 210) (hb : b.length ≤ 210) (hl : l.length ≤ 210) (hp : 1 ≤ p) (hp1 : p ≤ l.length) (hab : ∀ x ∈ a, x ∈ b) (hlen : a.length ≤ b.length) (hbl : (b.length : Int) ≤ (l.length : Int) - p) (d : Nat) :
    ∀ (k i : Nat), a.length - i = d → i ≤ a.length → d + 300 < k → stepladderlaw14_SuperMore.l0 k l p a b i = some true := by
  induction d with
  | zero =>
    intro k i hd hi hk
    obtain ⟨k, rfl⟩ : ∃ m, k = m + 1 := ⟨k - 1, by omega⟩
    simp only [stepladderlaw14_SuperMore.l0]
    rw [if_neg (by omega), if_pos (by omega), E.wrap_id (by omega) (by omega), decide_eq_true hbl]
  | succ d ih =>
    intro k i hd hi hk
    obtain ⟨k, rfl⟩ : ∃ m, k = m + 1 := ⟨k - 1, by omega⟩
    have h1 : i < a.length := by omega
    simp only [stepladderlaw14_SuperMore.l0]
    rw [if_pos (by omega), if_pos (by omega), P.has b _ (by omega) k (by omega), rd_get h1, decide_eq_true (hab _ (List.getElem_mem h1))]
    simp only [Option.bind_some, if_true]
    rw [show wrap64 ((i : Int) + 1) = ((i + 1 : Nat) : Int) from by rw [E.wrap_id (by omega) (by omega)]; omega]
    exact ih k (i + 1) (by omega) (by omega) (by omega)

theorem SuperMore.all (l : List Int) (m m' p : Int) (hm : (Lit.int .i64 m).wf = true) (hm' : (Lit.int .i64 m').wf = true) (k : Nat) (hk : 1000 < k) : stepladderlaw14_SuperMore.f k l m m' p = some true := by
  obtain ⟨k, rfl⟩ : ∃ m, k = m + 1 + 1 := ⟨k - 2, by omega⟩
  have hj : stepladderlaw14_SuperMore.j0 (k + 1 + 1) l m m' p true true = some true := by simp only [stepladderlaw14_SuperMore.j0, if_true]
  unfold stepladderlaw14_SuperMore.f
  rw [P.awake14 _ (by omega)]
  simp only [Option.bind_some, if_true]
  by_cases h1 : (l.length : Int) > 210
  · rw [if_pos h1, hj]
  rw [if_neg h1]
  by_cases h2 : m' < m
  · rw [decide_eq_true h2, hj]
  rw [decide_eq_false h2]
  simp only [stepladderlaw14_SuperMore.j0]
  rw [if_neg (by decide), P.prefix_f _ _ _ hm, P.prefix_f _ _ _ hm']
  simp only [Option.bind_some]
  cases hok : S.okB l m p with
  | false =>
    rw [S.prefZ_bad hok]
    simp only
    rw [if_neg (by decide)]
    simp only [stepladderlaw14_SuperMore.j1]
    simp
  | true =>
    obtain ⟨q0, q1, q2, q3⟩ := S.okB_parts hok
    have hok' : S.okB l m' p = true := S.okB_iff.2 ⟨q0, by omega, q2, q3⟩
    rw [S.prefZ_ok hok, S.prefZ_ok hok']
    simp only [if_true, stepladderlaw14_SuperMore.j1]
    rw [if_neg (by decide)]
    have ha := S.taken_len (l := l) (m := m) (k := p)
    have hb := S.taken_len (l := l) (m := m') (k := p)
    have hb2 := S.taken_ahead l m' p
    exact SuperMore.l0 l _ _ p (by omega) (by omega) (by omega) q2 (by omega) (S.taken_more hok (by omega)) (S.sub_len (S.takenL_up _ _ _) (S.takenL_up _ _ _) (S.taken_more hok (by omega))) (by omega) (S.takenL l m p).length k 0 (by omega) (by omega) (by omega)

theorem SuperMore : stepladderlaw14_SuperMore.Pure := fun l m m' p _ _ _ hm hm' _ => ⟨1001, SuperMore.all l m m' p hm hm' 1001 (by omega)⟩

end Go.Proofs.Ytfbhgbnpppbiiaa.Pure
