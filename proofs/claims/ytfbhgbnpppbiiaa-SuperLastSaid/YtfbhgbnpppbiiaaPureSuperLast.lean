/- SuperLast: the first block is taken, and the last m of the part ahead that have a level at least; all that is taken stands there, rising. For every input. -/
import Derived.Test.YtfbhgbnpppbiiaaPC
import Derived.Test.YtfbhgbnpppbiiaaXstepladderlaw14SuperLast
namespace Go.Proofs.Ytfbhgbnpppbiiaa.Pure
open Go.RowKit Go.Proofs.Ytfbhgbnpppbiiaa.X Go.Proofs.YtfbhgbnpppbiiaaW.PrintWords Go.Proofs.YtfbhgbnpppbiiaaW.PrintLast

theorem SuperLast.next {i : Nat} (hi : i ≤ 1000000) : wrap64 ((i : Int) + 1) = ((i + 1 : Nat) : Int) := by rw [E.wrap_id (by omega) (by omega)]; omega

theorem SuperLast.after {u : List Int} (h : S.Up u) {i : Nat} (hi : i < u.length) {y : Int} (hy : y ∈ u) (hlt : u[i] < y) : y ∈ u.drop (i + 1) := by
  obtain ⟨j, hj, rfl⟩ := List.mem_iff_getElem.1 hy
  have hij : i < j := by
    rcases Nat.lt_trichotomy i j with a | a | a
    · exact a
    · subst a; omega
    · have := List.pairwise_iff_getElem.1 h j i hj hi a; omega
  have := List.getElem_mem (l := u.drop (i + 1)) (n := j - (i + 1)) (by rw [List.length_drop]; omega)
  rw [List.getElem_drop] at this
  simpa [show i + 1 + (j - (i + 1)) = j from by omega] using this

/-- What is not taken has m behind it. -/
theorem SuperLast.behind {l : List Int} {m p n : Int} (h : S.okB l m p = true) {i : Nat} (hi : i < (S.upZ l 0 ((l.length : Int) - p) n).length) (hx : (S.upZ l 0 ((l.length : Int) - p) n)[i] ∉ S.takenL l m p) : (i : Int) + m < (S.upZ l 0 ((l.length : Int) - p) n).length := by
  obtain ⟨h0, h1, h2, h3⟩ := S.okB_parts h
  have hu := S.upZ_up l 0 ((l.length : Int) - p) n
  have hmem := List.getElem_mem hi
  have haf := fun y => SuperLast.after hu hi (y := y)
  generalize hxx : (S.upZ l 0 ((l.length : Int) - p) n)[i] = x at *
  obtain ⟨x0, x1, _, x3, x4⟩ := S.upZ_mem.1 hmem
  have hl := (S.mayB_parts h0).2.2.2 x x0 x1
  rw [S.takenL_mem] at hx
  have hf : x < S.fromZ l m p (rd l x) := by
    by_cases c : S.fromZ l m p (rd l x) ≤ x
    · exact absurd ⟨x0, x1, x3, hl.1, c⟩ hx
    · omega
  rw [S.fromZ_is h hl.2] at hf
  have hup := S.upZ_up l 0 ((l.length : Int) - p) (rd l x + 1)
  have hV : ∀ y ∈ S.upZ l 0 ((l.length : Int) - p) (rd l x + 1), y ∈ S.upZ l 0 ((l.length : Int) - p) n := fun y hy => by
    rw [S.upZ_mem] at hy ⊢
    exact ⟨hy.1, hy.2.1, hy.2.2.1, hy.2.2.2.1, by omega⟩
  generalize S.upZ l 0 ((l.length : Int) - p) (rd l x + 1) = V at *
  have hm : m ≤ V.length := by
    by_cases c : m ≤ (V.length : Int)
    · exact c
    · unfold S.mthLast at hf; rw [if_neg c] at hf; omega
  have hc := S.mthLast_count hup h1 hm
  have hd : S.Up ((S.upZ l 0 ((l.length : Int) - p) n).drop (i + 1)) := List.Pairwise.sublist (List.drop_sublist _ _) hu
  have := S.sub_len (S.up_filter hup (fun y => decide (S.mthLast V m ≤ y))) hd fun y hy => by
    rw [List.mem_filter, decide_eq_true_eq] at hy
    exact haf y (hV y hy.1) (by omega)
  rw [List.length_drop] at this
  omega

theorem SuperLast.l1 (l : List Int) (m p n : Int) (hl : l.length ≤ 210) (h : S.okB l m p = true) (d : Nat) : ∀ (k i : Nat), (S.upZ l 0 ((l.length : Int) - p) n).length - i = d → i ≤ (S.upZ l 0 ((l.length : Int) - p) n).length → d + 300 < k →
    stepladderlaw14_SuperLast.l1 k m (S.takenL l m p) (S.upZ l 0 ((l.length : Int) - p) n) i = some true := by
  have hu := S.upZ_len l 0 ((l.length : Int) - p) n
  have ht := S.taken_len (l := l) (m := m) (k := p)
  have h1 := (S.okB_parts h).2.1
  induction d with
  | zero =>
    intro k i hd hi hk
    obtain ⟨k, rfl⟩ : ∃ m, k = m + 1 := ⟨k - 1, by omega⟩
    simp only [stepladderlaw14_SuperLast.l1]
    rw [if_neg (by omega)]
  | succ d ih =>
    intro k i hd hi hk
    obtain ⟨k, rfl⟩ : ∃ m, k = m + 1 := ⟨k - 1, by omega⟩
    have hi' : i < (S.upZ l 0 ((l.length : Int) - p) n).length := by omega
    have hgo := ih k (i + 1) (by omega) (by omega) (by omega)
    simp only [stepladderlaw14_SuperLast.l1]
    rw [if_pos (by omega), if_pos (by omega), P.has _ _ (by omega) k (by omega), rd_get hi', SuperLast.next (by omega), hgo]
    simp only [Option.bind_some]
    by_cases hin : (S.upZ l 0 ((l.length : Int) - p) n)[i] ∈ S.takenL l m p
    · rw [decide_eq_true hin]; rfl
    · have hb := SuperLast.behind h hi' hin
      rw [decide_eq_false hin, if_neg (by decide), E.wrap_id (x := (i : Int) + m) (by omega) (by omega), if_neg (by omega)]

theorem SuperLast.l0 (l : List Int) (m p n : Int) (a : List Int) (hl : l.length ≤ 210) (hal : a.length ≤ 210) (hup : S.Up a) (h0 : (0 : Int) ∈ a) (ha : ∀ x ∈ a, 0 ≤ x ∧ x < (l.length : Int) - p) (hp : 1 ≤ p) (hp1 : p < l.length) (K : Nat)
    (ht : ∀ k, K < k → stepladderlaw14_SuperLast.j3 k l m p n a false = some true) (d : Nat) : ∀ (k i : Nat), 1 ≤ i → a.length - i = d → i ≤ a.length → d + 1 + K < k → stepladderlaw14_SuperLast.l0 k l m p n a i = some true := by
  have hlen : 0 < a.length := List.length_pos_iff.2 (fun e => by rw [e] at h0; simp at h0)
  induction d with
  | zero =>
    intro k i h1 hd hi hk
    obtain ⟨k, rfl⟩ : ∃ m, k = m + 1 := ⟨k - 1, by omega⟩
    simp only [stepladderlaw14_SuperLast.l0]
    have hz : rd a 0 = 0 := Int.le_antisymm (S.up_head hup h0) (ha _ (S.rd_mem (by omega) (by omega))).1
    have hlast := (ha _ (S.rd_mem (a := a) (i := (a.length : Int) - 1) (by omega) (by omega))).2
    rw [if_neg (by omega), if_neg (by omega), if_pos (by omega), if_pos hz, E.wrap_id (x := (a.length : Int) - 1) (by omega) (by omega), if_pos (by omega), if_pos (by omega), E.wrap_id (x := (l.length : Int) - p) (by omega) (by omega), decide_eq_false (by omega)]
    exact ht k (by omega)
  | succ d ih =>
    intro k i h1 hd hi hk
    obtain ⟨k, rfl⟩ : ∃ m, k = m + 1 := ⟨k - 1, by omega⟩
    have hgo := ih k (i + 1) (by omega) (by omega) (by omega) (by omega)
    have hr := S.up_rd hup (i := i - 1) (j := i) (by omega) (by omega)
    simp only [stepladderlaw14_SuperLast.l0]
    rw [if_pos (by omega), if_pos (by omega), E.wrap_id (x := (i : Int) - 1) (by omega) (by omega), if_pos (by omega), if_pos (by omega), show (i : Int) - 1 = ((i - 1 : Nat) : Int) from by omega, if_neg (by omega), SuperLast.next (by omega)]
    exact hgo

theorem SuperLast.all (l : List Int) (m p n : Int) (hm : (Lit.int .i64 m).wf = true) (k : Nat) (hk : 2000 < k) : stepladderlaw14_SuperLast.f k l m p n = some true := by
  obtain ⟨k, rfl⟩ : ∃ m, k = m + 1 + 1 := ⟨k - 2, by omega⟩
  have hj : stepladderlaw14_SuperLast.j0 (k + 1 + 1) l m p n true true = some true := by simp only [stepladderlaw14_SuperLast.j0, if_true]
  unfold stepladderlaw14_SuperLast.f
  rw [P.awake14 _ (by omega)]
  simp only [Option.bind_some, if_true]
  by_cases h1 : (l.length : Int) > 210
  · rw [decide_eq_true h1, hj]
  rw [decide_eq_false h1]
  simp only [stepladderlaw14_SuperLast.j0]
  rw [if_neg (by decide), P.prefix_f _ _ _ hm, P.may_f]
  simp only [Option.bind_some]
  cases hok : S.okB l m p with
  | false =>
    have hbad : ∀ b, b = false → stepladderlaw14_SuperLast.j1 (k + 1) l m p n [] false b = some true := fun b hb => by
      subst hb
      simp only [stepladderlaw14_SuperLast.j1]
      rfl
    rw [S.prefZ_bad hok]
    simp only
    have hno := fun h => Bool.eq_false_iff.1 hok (S.okB_iff.2 h)
    by_cases c1 : S.mayB l = true
    · rw [if_pos c1]
      by_cases c2 : m ≥ 1
      · rw [if_pos c2]
        by_cases c3 : p ≥ 1
        · rw [if_pos c3, decide_eq_false (fun h => hno ⟨c1, c2, c3, h⟩)]
          exact hbad _ rfl
        · rw [if_neg c3]; exact hbad _ rfl
      · rw [if_neg c2]; exact hbad _ rfl
    · rw [if_neg c1]; exact hbad _ rfl
  | true =>
    obtain ⟨q0, q1, q2, q3⟩ := S.okB_parts hok
    rw [S.prefZ_ok hok]
    simp only
    rw [if_pos q0, if_pos q1, if_pos q2, decide_eq_true (by omega)]
    simp only [stepladderlaw14_SuperLast.j1]
    rw [if_neg (by decide), if_pos trivial]
    have ha := S.taken_len (l := l) (m := m) (k := p)
    have hz := S.taken_zero hok
    refine SuperLast.l0 l m p n (S.takenL l m p) (by omega) (by omega) (S.takenL_up _ _ _) hz (fun x hx => ?_) q2 (by omega) 700 (fun k hk => ?_) ((S.takenL l m p).length - 1) k 1 (by omega) (by omega) ?_ (by omega)
    · have := S.takenL_mem.1 hx
      exact ⟨this.1, this.2.2.1⟩
    · obtain ⟨k, rfl⟩ : ∃ m, k = m + 1 := ⟨k - 1, by omega⟩
      simp only [stepladderlaw14_SuperLast.j3]
      rw [if_neg (by decide), E.wrap_id (x := (l.length : Int) - p) (by omega) (by omega), E.up_f l _ _ _ (by omega) k (by omega)]
      have hu := S.upZ_len l 0 ((l.length : Int) - p) n
      exact SuperLast.l1 l m p n (by omega) hok _ k 0 rfl (by omega) (by omega)
    · exact List.length_pos_iff.2 (fun e => by rw [e] at hz; simp at hz)

theorem SuperLast : stepladderlaw14_SuperLast.Pure := fun l m p n _ _ _ hm _ _ => ⟨2001, SuperLast.all l m p n hm 2001 (by omega)⟩

end Go.Proofs.Ytfbhgbnpppbiiaa.Pure
