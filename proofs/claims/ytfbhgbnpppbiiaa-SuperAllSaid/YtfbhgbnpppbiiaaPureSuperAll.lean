/- SuperAll: with an m of no fewer than there are levels all of the part ahead is taken; places of a level are among those of a less one. For every input. -/
import Derived.Test.YtfbhgbnpppbiiaaPC
import Derived.Test.YtfbhgbnpppbiiaaXstepladderlaw14SuperAll
namespace Go.Proofs.Ytfbhgbnpppbiiaa.Pure
open Go.RowKit Go.Proofs.Ytfbhgbnpppbiiaa.X Go.Proofs.YtfbhgbnpppbiiaaW.PrintWords Go.Proofs.YtfbhgbnpppbiiaaW.PrintLast

theorem SuperAll.taken {l : List Int} {p : Int} (h : S.okB l ((l.length : Int) + 1) p = true) : ((S.takenL l ((l.length : Int) + 1) p).length : Int) = (l.length : Int) - p := by
  obtain ⟨h0, h1, h2, h3⟩ := S.okB_parts h
  have e : S.takenL l ((l.length : Int) + 1) p = S.below ((l.length : Int) - p) := by
    refine S.up_ext (S.takenL_up _ _ _) (S.below_up _) fun x => ?_
    rw [S.takenL_mem, S.below_mem]
    constructor
    · rintro ⟨a, b, c, d, e⟩; exact ⟨a, c⟩
    · rintro ⟨a, c⟩
      have hl := (S.mayB_parts h0).2.2.2 x a (by omega)
      refine ⟨a, by omega, c, hl.1, ?_⟩
      rw [S.fromZ_is h hl.2]
      unfold S.mthLast
      have := S.upZ_len l 0 ((l.length : Int) - p) (rd l x + 1)
      rw [if_neg (by omega)]
      exact a
  rw [e, S.below_len]
  omega

theorem SuperAll.l0 (l a b : List Int) (fr hi : Int) (_ha : a.length ≤ 210) (hb : b.length ≤ 210) (hab : ∀ x ∈ a, x ∈ b ∧ fr ≤ x ∧ x < hi ∧ 0 ≤ x ∧ x < l.length) (hlen : a.length ≤ b.length) (d : Nat) :
    ∀ (k i : Nat), a.length - i = d → i ≤ a.length → d + 300 < k → stepladderlaw14_SuperAll.l0 k l fr hi a b i = some true := by
  induction d with
  | zero =>
    intro k i hd hi hk
    obtain ⟨k, rfl⟩ : ∃ m, k = m + 1 := ⟨k - 1, by omega⟩
    simp only [stepladderlaw14_SuperAll.l0]
    rw [if_neg (by omega), decide_eq_true (by omega)]
  | succ d ih =>
    intro k i hd hi hk
    obtain ⟨k, rfl⟩ : ∃ m, k = m + 1 := ⟨k - 1, by omega⟩
    have h1 : i < a.length := by omega
    obtain ⟨x0, x1, x2, x3, x4⟩ := hab _ (List.getElem_mem h1)
    simp only [stepladderlaw14_SuperAll.l0]
    rw [if_pos (by omega), if_pos (by omega), P.has b _ (by omega) k (by omega), rd_get h1, decide_eq_true x0]
    simp only [Option.bind_some, if_true]
    rw [if_neg (by omega), if_neg (by omega), if_neg (by omega), if_neg (by omega), show wrap64 ((i : Int) + 1) = ((i + 1 : Nat) : Int) from by rw [E.wrap_id (by omega) (by omega)]; omega]
    exact ih k (i + 1) (by omega) (by omega) (by omega)

theorem SuperAll.all (l : List Int) (p n lo fr hi : Int) (k : Nat) (hk : 1000 < k) : stepladderlaw14_SuperAll.f k l p n lo fr hi = some true := by
  obtain ⟨k, rfl⟩ : ∃ m, k = m + 1 + 1 := ⟨k - 2, by omega⟩
  have hj : stepladderlaw14_SuperAll.j0 (k + 1 + 1) l p n lo fr hi true true = some true := by simp only [stepladderlaw14_SuperAll.j0, if_true]
  unfold stepladderlaw14_SuperAll.f
  rw [P.awake14 _ (by omega)]
  simp only [Option.bind_some, if_true]
  by_cases h1 : (l.length : Int) > 210
  · rw [if_pos h1, hj]
  rw [if_neg h1]
  by_cases h2 : lo > n
  · rw [decide_eq_true h2, hj]
  rw [decide_eq_false h2]
  have hj1 : stepladderlaw14_SuperAll.j1 (k + 1) l n lo fr hi false = some true := by
    simp only [stepladderlaw14_SuperAll.j1]
    rw [if_neg (by decide), E.up_f l fr hi n (by omega) k (by omega), E.up_f l fr hi lo (by omega) k (by omega)]
    simp only [Option.bind_some]
    have ha := S.upZ_len l fr hi n
    have hb := S.upZ_len l fr hi lo
    have hsub : ∀ x ∈ S.upZ l fr hi n, x ∈ S.upZ l fr hi lo := fun x hx => by
      rw [S.upZ_mem] at hx ⊢
      exact ⟨hx.1, hx.2.1, hx.2.2.1, hx.2.2.2.1, by omega⟩
    exact SuperAll.l0 l _ _ fr hi (by omega) (by omega) (fun x hx => ⟨hsub x hx, by have := S.upZ_mem.1 hx; exact ⟨this.2.2.1, this.2.2.2.1, this.1, this.2.1⟩⟩) (S.sub_len (S.upZ_up _ _ _ _) (S.upZ_up _ _ _ _) hsub) _ k 0 rfl (by omega) (by omega)
  simp only [stepladderlaw14_SuperAll.j0]
  rw [if_neg (by decide), E.wrap_id (x := (l.length : Int) + 1) (by omega) (by omega), P.prefix_f _ _ _ (WalkArith.wf_i64 (by omega))]
  simp only [Option.bind_some]
  cases hok : S.okB l ((l.length : Int) + 1) p with
  | false =>
    rw [S.prefZ_bad hok]
    simp only
    rw [if_neg (by decide)]
    exact hj1
  | true =>
    obtain ⟨q0, q1, q2, q3⟩ := S.okB_parts hok
    rw [S.prefZ_ok hok]
    simp only [if_true]
    rw [E.wrap_id (x := (l.length : Int) - p) (by omega) (by omega), SuperAll.taken hok]
    rw [show ((l.length : Int) - p != (l.length : Int) - p) = false from by simp]
    exact hj1

theorem SuperAll : stepladderlaw14_SuperAll.Pure := fun l p n lo fr hi _ _ _ _ _ _ _ _ => ⟨1001, SuperAll.all l p n lo fr hi 1001 (by omega)⟩

end Go.Proofs.Ytfbhgbnpppbiiaa.Pure
