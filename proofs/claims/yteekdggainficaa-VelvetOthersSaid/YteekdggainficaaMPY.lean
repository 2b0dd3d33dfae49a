/- Plain facts of velvet: which blocks are smooth goes by those ahead; what is taken goes by the part ahead. -/
import Derived.Test.YteekdggainficaaMB6
namespace Go.Proofs.Yteekdggainficaa.X
open Go.RowKit Go.Proofs.YteekdggainficaaW.PrintWords

theorem V.lnk_congr {l l' : List S36} : ∀ i : Nat, (∀ j < i, l.getD j z36 = l'.getD j z36) → V.lnk l i = V.lnk l' i
  | 0, _ => rfl
  | i + 1, h => by rw [V.lnk, V.lnk, V.lnk_congr i (fun j hj => h j (by omega)), h i (by omega)]
theorem V.sm_congr {l l' : List S36} {i : Nat} (h : ∀ j < i + 1, l.getD j z36 = l'.getD j z36) : V.sm l i = V.sm l' i := by
  unfold V.sm
  rw [V.lnk_congr i (fun j hj => h j (by omega)), h i (by omega)]
theorem V.getD_left {l m : List S36} {j : Nat} (h : j < l.length) : (l ++ m).getD j z36 = l.getD j z36 := by
  rw [List.getD_eq_getElem?_getD, List.getD_eq_getElem?_getD, List.getElem?_append_left h]
theorem V.getD_end {l : List S36} {x : S36} : (l ++ [x]).getD l.length z36 = x := by
  rw [List.getD_eq_getElem?_getD, List.getElem?_append_right (Nat.le_refl _), Nat.sub_self]
  rfl
theorem V.sms_get (l : List S36) {n j : Nat} (h : j < n) : ((List.range n).map (V.sm l)).getD j false = V.sm l j := by
  rw [List.getD_eq_getElem?_getD, List.getElem?_map, List.getElem?_range h]
  rfl
theorem V.smz_at {l : List S36} (h : V.mayV l = true) {j : Nat} (hj : j < l.length) : (V.smoothZ l).getD j false = V.sm l j := by
  rw [V.smoothZ_is h]
  exact V.sms_get l hj
theorem S.mayB_of {l : List Int} (h0 : 0 < l.length) (h1 : l.length ≤ 200) (h2 : rd l 0 = 31) (h3 : ∀ x : Int, 0 ≤ x → x < l.length → 0 ≤ rd l x ∧ rd l x ≤ 31) : S.mayB l = true := by
  unfold S.mayB
  simp only [Bool.and_eq_true, decide_eq_true_eq, Bool.not_eq_true', List.any_eq_false]
  refine ⟨h0, h1, h2, fun x hx => ?_⟩
  obtain ⟨j, hj, rfl⟩ := List.getElem_of_mem hx
  have := h3 j (by omega) (by omega)
  rw [rd_get hj] at this
  unfold S.oddB
  simp
  omega
theorem S.upZ_same {l l' : List Int} {hi : Int} (hlen : l.length = l'.length) (hrd : ∀ x : Int, 0 ≤ x → x < hi → rd l x = rd l' x) (fr n : Int) : S.upZ l fr hi n = S.upZ l' fr hi n := by
  refine S.up_ext (S.upZ_up _ _ _ _) (S.upZ_up _ _ _ _) fun x => ?_
  rw [S.upZ_mem, S.upZ_mem, hlen]
  constructor
  · rintro ⟨a, b, c, d, e⟩
    exact ⟨a, b, c, d, by rw [← hrd x a d]; exact e⟩
  · rintro ⟨a, b, c, d, e⟩
    exact ⟨a, b, c, d, by rw [hrd x a d]; exact e⟩
theorem S.taken_same {l l' : List Int} {m k : Int} (h : S.okB l m k = true) (h' : S.okB l' m k = true) (hlen : l.length = l'.length) (hrd : ∀ x : Int, 0 ≤ x → x < (l.length : Int) - k → rd l x = rd l' x) : S.takenL l m k = S.takenL l' m k := by
  obtain ⟨q0, q1, q2, q3⟩ := S.okB_parts h
  have hfr : ∀ x : Int, 0 ≤ x → x < (l.length : Int) - k → S.fromZ l m k (rd l' x) = S.fromZ l' m k (rd l' x) := fun x a b => by
    have hle := ((S.mayB_parts q0).2.2.2 x a (by omega)).2
    rw [hrd x a b] at hle
    rw [S.fromZ_is h hle, S.fromZ_is h' hle, ← hlen, S.upZ_same hlen hrd]
  refine S.up_ext (S.takenL_up _ _ _) (S.takenL_up _ _ _) fun x => ?_
  rw [S.takenL_mem, S.takenL_mem, hlen]
  constructor
  · rintro ⟨a, b, c, d, e⟩
    rw [hrd x a (by omega)] at d e
    rw [hfr x a (by omega)] at e
    exact ⟨a, b, c, d, e⟩
  · rintro ⟨a, b, c, d, e⟩
    rw [hrd x a (by omega), hfr x a (by omega)]
    exact ⟨a, b, c, d, e⟩
/-- What is taken of smooth blocks: velvet.Prefix, where it takes. -/
theorem V.prefZ_ok {l : List S36} {a1 : Int} {k : Nat} (hm : V.mayV l = true) (h1 : 1 ≤ a1) (h2 : 1 ≤ k) (h3 : k < l.length) :
    V.prefZ l a1 k = ((S.prefZ (V.lev (V.smo l (l.length - k)) ++ List.replicate k 0) a1 k).1.map fun j => rd (V.atTo l (l.length - k)) j, true) := by
  have := V.prefZ_is hm h1 h2 h3
  rwa [Int.toNat_natCast] at this
theorem V.prefZ_no {l : List S36} {a1 k : Int} (h : ¬(V.mayV l = true ∧ 1 ≤ a1 ∧ 1 ≤ k ∧ k < l.length)) : V.prefZ l a1 k = ([], false) := by
  unfold V.prefZ
  rw [if_neg h]
theorem V.lev_len (l : List S36) : (V.lev l).length = l.length := by unfold V.lev; rw [List.length_map]
theorem V.lev_rd {l : List S36} {j : Nat} (h : j < l.length) : rd (V.lev l) j = (l.getD j z36).f1 := by
  rw [rd_get (by rw [V.lev_len]; exact h), List.getD_eq_getElem?_getD, List.getElem?_eq_getElem h]
  unfold V.lev
  rw [List.getElem_map]
  rfl

end Go.Proofs.Yteekdggainficaa.X
