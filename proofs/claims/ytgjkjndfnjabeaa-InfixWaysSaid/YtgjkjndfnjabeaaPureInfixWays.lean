/- InfixWays: a way down is linked, begins by the low place, and ends by the high one; each part of it is a way. For every input. -/
import Derived.Test.YtgjkjndfnjabeaaPI
import Derived.Test.YtgjkjndfnjabeaaXstepladderlaw16InfixWays
namespace Go.Proofs.Ytgjkjndfnjabeaa.Pure
open Go.RowKit Go.Proofs.Ytgjkjndfnjabeaa.X Go.Proofs.YtgjkjndfnjabeaaW.PrintWords Go.Proofs.YtgjkjndfnjabeaaW.PrintLast

/-- Whether all that is asked of some places holds, of a part of them. -/
theorem InfixWays.link_drop {l a : List Int} (h : ∀ j : Nat, j < a.length → S.LinkAt l a j) (i : Nat) : ∀ j : Nat, j < (a.drop i).length → S.LinkAt l (a.drop i) j := by
  have hrd : ∀ j : Nat, i + j < a.length → rd (a.drop i) j = rd a ((i + j : Nat) : Int) := fun j hj => by
    rw [rd_get (by rw [List.length_drop]; omega), rd_get hj, List.getElem_drop]
  intro j hj
  rw [List.length_drop] at hj
  obtain ⟨h1, h2, h3⟩ := h (i + j) (by omega)
  refine ⟨by rw [hrd j (by omega)]; exact h1, by rw [hrd j (by omega)]; exact h2, fun h0 => ?_⟩
  obtain ⟨j, rfl⟩ : ∃ q, j = q + 1 := ⟨j - 1, by omega⟩
  have h4 := h3 (by omega)
  rw [show ((i + (j + 1) : Nat) : Int) - 1 = ((i + j : Nat) : Int) from by omega] at h4
  rw [show ((j + 1 : Nat) : Int) - 1 = (j : Int) from by omega, hrd j (by omega), hrd (j + 1) (by omega)]
  exact h4
theorem InfixWays.link_take {l a : List Int} (h : ∀ j : Nat, j < a.length → S.LinkAt l a j) (i : Nat) : ∀ j : Nat, j < (a.take i).length → S.LinkAt l (a.take i) j := by
  have hrd : ∀ j : Nat, j < i → j < a.length → rd (a.take i) j = rd a j := fun j hji hj => by
    rw [rd_get (by rw [List.length_take]; omega), rd_get hj, List.getElem_take]
  intro j hj
  rw [List.length_take] at hj
  obtain ⟨h1, h2, h3⟩ := h j (by omega)
  refine ⟨by rw [hrd j (by omega) (by omega)]; exact h1, by rw [hrd j (by omega) (by omega)]; exact h2, fun h0 => ?_⟩
  obtain ⟨j, rfl⟩ : ∃ q, j = q + 1 := ⟨j - 1, by omega⟩
  have h4 := h3 (by omega)
  rw [show ((j + 1 : Nat) : Int) - 1 = (j : Int) from by omega] at h4 ⊢
  rw [hrd j (by omega) (by omega), hrd (j + 1) (by omega) (by omega)]
  exact h4
theorem InfixWays.linked {l a : List Int} (hl : l.length ≤ 210) (ha : a.length ≤ 100000) (k : Nat) (hk : 4 * a.length + 1 < k) (h : ∀ j : Nat, j < a.length → S.LinkAt l a j) : infix_Linked.f k l a = some true := by
  obtain ⟨b, hb, hbi⟩ := P.linked_f l a hl ha k hk
  rw [hb, hbi.2 h]

theorem InfixWays.all (l : List Int) (hi lo i : Int) (k : Nat) (hk : 4000 < k) : stepladderlaw16_InfixWays.f k l hi lo i = some true := by
  obtain ⟨k, rfl⟩ : ∃ m, k = m + 1 + 1 + 1 + 1 := ⟨k - 4, by omega⟩
  have hj : stepladderlaw16_InfixWays.j0 (k + 1 + 1 + 1 + 1) l hi lo i true true = some true := by simp only [stepladderlaw16_InfixWays.j0, if_true]
  unfold stepladderlaw16_InfixWays.f
  rw [P.awake16 _ (by omega)]
  simp only [Option.bind_some, if_true]
  by_cases h1 : (l.length : Int) > 210
  · rw [decide_eq_true h1, hj]
  rw [decide_eq_false h1]
  simp only [stepladderlaw16_InfixWays.j0]
  rw [if_neg (by decide), P.follow_f, P.may_f]
  simp only [Option.bind_some]
  by_cases hok : S.mayB l = true ∧ 0 ≤ lo ∧ lo ≤ hi ∧ hi < l.length
  · rw [S.follow_ok hok]
    obtain ⟨q0, q1, q2, q3⟩ := hok
    simp only
    rw [if_pos q0, if_pos (by omega), if_pos (by omega), decide_eq_true q3]
    simp only [stepladderlaw16_InfixWays.j1]
    have hlen := S.wayL_len l hi lo
    have hlo := S.wayL_lo q0 q1 q3 q2
    have hhi := S.wayL_hi (l := l) (hi := hi) (lo := lo) q1 q3
    have hup := S.wayL_up l hi lo
    have hr := S.wayL_range (l := l) q1 q3 q2
    have hpos : 0 < (S.wayL l hi lo).length := List.length_pos_iff.2 (fun e => by rw [e] at hlo; simp at hlo)
    have hlink := S.linked_of (l := l) hup (fun x hx => by have := hr x hx; omega) q0 (fun c d hn => S.way_step_of q0 q1 q3 q2 hn)
    have hfirst : rd (S.wayL l hi lo) 0 = lo := Int.le_antisymm (S.up_head hup hlo) (hr _ (S.rd_mem (by omega) (by omega))).1
    have hlast : rd (S.wayL l hi lo) (((S.wayL l hi lo).length : Int) - 1) = hi := Int.le_antisymm (hr _ (S.rd_mem (by omega) (by omega))).2 (S.up_last hup hhi)
    rw [if_neg (by decide), if_pos trivial, if_neg (by omega), if_pos (by omega), if_pos hfirst, E.wrap_id (x := ((S.wayL l hi lo).length : Int) - 1) (by omega) (by omega), if_pos (by omega), if_pos (by omega), if_pos hlast, InfixWays.linked (by omega) (by omega) _ (by omega) hlink]
    simp only [Option.bind_some, Bool.not_true]
    have hj3 : stepladderlaw16_InfixWays.j3 (k + 1) l i (S.wayL l hi lo) true = some true := by simp only [stepladderlaw16_InfixWays.j3, if_true]
    simp only [stepladderlaw16_InfixWays.j2]
    rw [if_neg (by decide)]
    by_cases c1 : i < 0
    · rw [if_pos c1, hj3]
    rw [if_neg c1]
    by_cases c2 : i ≥ ((S.wayL l hi lo).length : Int)
    · rw [decide_eq_true c2, hj3]
    rw [decide_eq_false c2]
    simp only [stepladderlaw16_InfixWays.j3]
    have l1 := List.length_drop (l := S.wayL l hi lo) (i := i.toNat)
    have l2 := List.length_take (l := S.wayL l hi lo) (i := i.toNat)
    rw [if_neg (by decide), if_pos (by omega), if_pos (by omega), InfixWays.linked (by omega) (by omega) _ (by omega) (InfixWays.link_drop hlink i.toNat)]
    simp only [Option.bind_some, if_true]
    rw [InfixWays.linked (by omega) (by omega) _ (by omega) (InfixWays.link_take hlink i.toNat)]
    rfl
  · rw [S.follow_bad hok]
    simp only
    have hend : stepladderlaw16_InfixWays.j1 (k + 1 + 1 + 1) l hi lo i [] false (false != false) = some true := by
      simp only [stepladderlaw16_InfixWays.j1]
      rfl
    by_cases c0 : S.mayB l = true
    · rw [if_pos c0]
      by_cases c1 : lo ≥ 0
      · rw [if_pos c1]
        by_cases c2 : lo ≤ hi
        · rw [if_pos c2, decide_eq_false (fun h => hok ⟨c0, by omega, c2, h⟩)]; exact hend
        · rw [if_neg c2]; exact hend
      · rw [if_neg c1]; exact hend
    · rw [if_neg c0]; exact hend

theorem InfixWays : stepladderlaw16_InfixWays.Pure := fun l hi lo i _ _ _ _ _ _ => ⟨4001, InfixWays.all l hi lo i 4001 (by omega)⟩

end Go.Proofs.Ytgjkjndfnjabeaa.Pure
