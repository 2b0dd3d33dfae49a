/- InfixShort: a way down goes over no place of a level at least as high as the next one's, and no way is longer than it is far; the way from a place to itself is that place. For every input. -/
import Derived.Test.YtgjkjndfnjabeaaPI
import Derived.Test.YtgjkjndfnjabeaaXstepladderlaw16InfixShort
namespace Go.Proofs.Ytgjkjndfnjabeaa.Pure
open Go.RowKit Go.Proofs.Ytgjkjndfnjabeaa.X Go.Proofs.YtgjkjndfnjabeaaW.PrintWords Go.Proofs.YtgjkjndfnjabeaaW.PrintLast

theorem InfixShort.l0 (l : List Int) (a b : Int) (ha : 0 ≤ a) (hab : a < b) (hb : b < l.length) (hl : l.length ≤ 1000) (h : ∀ z : Int, a < z → z < b → rd l z < rd l a) (d : Nat) : ∀ (k : Nat) (z : Int), a < z → (b - z).toNat = d → d < k → stepladderlaw16_InfixShort.l0 k l a b z = some true := by
  induction d with
  | zero =>
    intro k z hz hd hk
    obtain ⟨k, rfl⟩ : ∃ m, k = m + 1 := ⟨k - 1, by omega⟩
    simp only [stepladderlaw16_InfixShort.l0]
    rw [if_neg (by omega)]
  | succ d ih =>
    intro k z hz hd hk
    obtain ⟨k, rfl⟩ : ∃ m, k = m + 1 := ⟨k - 1, by omega⟩
    have := h z hz (by omega)
    simp only [stepladderlaw16_InfixShort.l0]
    rw [if_pos (by omega), if_pos (by omega), if_pos (by omega), if_pos (by omega), if_pos (by omega), if_neg (by omega), E.wrap_id (x := z + 1) (by omega) (by omega)]
    exact ih k (z + 1) (by omega) (by omega) (by omega)

/-- No more of a way than there are places between. -/
theorem InfixShort.len {l : List Int} {hi lo : Int} (h0 : 0 ≤ lo) (h1 : hi < l.length) (h2 : lo ≤ hi) : ((S.wayL l hi lo).length : Int) ≤ hi - lo + 1 := by
  have hup : S.Up ((S.wayL l hi lo).map fun x => x - lo) := by
    refine List.pairwise_map.2 ((S.wayL_up l hi lo).imp fun h => ?_)
    omega
  have := S.sub_len hup (S.below_up (hi - lo + 1)) fun x hx => by
    obtain ⟨y, hy, rfl⟩ := List.mem_map.1 hx
    have := S.wayL_range h0 h1 h2 y hy
    rw [S.below_mem]
    omega
  rw [List.length_map, S.below_len] at this
  omega

theorem InfixShort.all (l : List Int) (hi lo i : Int) (k : Nat) (hk : 2000 < k) : stepladderlaw16_InfixShort.f k l hi lo i = some true := by
  obtain ⟨k, rfl⟩ : ∃ m, k = m + 1 + 1 + 1 + 1 := ⟨k - 4, by omega⟩
  have hj : stepladderlaw16_InfixShort.j0 (k + 1 + 1 + 1 + 1) l hi lo i true true = some true := by simp only [stepladderlaw16_InfixShort.j0, if_true]
  unfold stepladderlaw16_InfixShort.f
  rw [P.awake16 _ (by omega)]
  simp only [Option.bind_some, if_true]
  by_cases h1 : (l.length : Int) > 210
  · rw [decide_eq_true h1, hj]
  rw [decide_eq_false h1]
  simp only [stepladderlaw16_InfixShort.j0]
  rw [if_neg (by decide), P.follow_f]
  simp only [Option.bind_some]
  by_cases hok : S.mayB l = true ∧ 0 ≤ lo ∧ lo ≤ hi ∧ hi < l.length
  · rw [S.follow_ok hok]
    obtain ⟨q0, q1, q2, q3⟩ := hok
    simp only [if_true]
    have hlen := InfixShort.len (l := l) q1 q3 q2
    have hj1 : stepladderlaw16_InfixShort.j1 (k + 1 + 1 + 1) l i (S.wayL l hi lo) false = some true := by
      have hlo := S.wayL_lo q0 q1 q3 q2
      have hpos : 0 < (S.wayL l hi lo).length := List.length_pos_iff.2 (fun e => by rw [e] at hlo; simp at hlo)
      have hj2 : stepladderlaw16_InfixShort.j2 (k + 1 + 1) l i (S.wayL l hi lo) true = some true := by simp only [stepladderlaw16_InfixShort.j2, if_true]
      simp only [stepladderlaw16_InfixShort.j1]
      rw [if_neg (by decide)]
      by_cases c1 : i < 0
      · rw [if_pos c1, hj2]
      rw [if_neg c1, E.wrap_id (x := ((S.wayL l hi lo).length : Int) - 1) (by omega) (by omega)]
      by_cases c2 : i ≥ ((S.wayL l hi lo).length : Int) - 1
      · rw [decide_eq_true c2, hj2]
      rw [decide_eq_false c2]
      obtain ⟨i, rfl⟩ : ∃ q : Nat, i = q := ⟨i.toNat, by omega⟩
      have hn := S.next_of (S.wayL_up l hi lo) (i := i) (by omega)
      have hr1 := S.wayL_range q1 q3 q2 _ hn.1
      have hr2 := S.wayL_range q1 q3 q2 _ hn.2.1
      obtain ⟨g1, g2, g3⟩ := S.way_gap q1 q3 hn
      have hlt := hn.2.2.1
      simp only [stepladderlaw16_InfixShort.j2]
      rw [if_neg (by decide), if_pos (by omega), if_pos (by omega), P.next (by omega), if_pos (by omega), if_pos (by omega), if_neg (by omega), if_neg (by omega), decide_eq_false (by omega)]
      simp only [stepladderlaw16_InfixShort.j3]
      rw [if_neg (by decide), E.wrap_id (x := rd (S.wayL l hi lo) i + 1) (by omega) (by omega)]
      exact InfixShort.l0 l _ _ (by omega) hlt (by omega) (by omega) g3 _ k _ (by omega) rfl (by omega)
    rw [E.wrap_id (x := hi - lo) (by omega) (by omega), E.wrap_id (x := hi - lo + 1) (by omega) (by omega), if_neg (by omega)]
    by_cases c : hi = lo
    · have hpos : 0 < (S.wayL l hi lo).length := List.length_pos_iff.2 (fun e => by have := S.wayL_hi (l := l) (hi := hi) (lo := lo) q1 q3; rw [e] at this; simp at this)
      rw [if_pos c, show (((S.wayL l hi lo).length : Int) != 1) = false from by simp; omega]
      exact hj1
    · rw [if_neg c]
      exact hj1
  · rw [S.follow_bad hok]
    simp only
    rw [if_neg (by decide)]

theorem InfixShort : stepladderlaw16_InfixShort.Pure := fun l hi lo i _ _ _ _ _ _ => ⟨2001, InfixShort.all l hi lo i 2001 (by omega)⟩

end Go.Proofs.Ytgjkjndfnjabeaa.Pure
