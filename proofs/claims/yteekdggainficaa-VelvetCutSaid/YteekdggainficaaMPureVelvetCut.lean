/- Which blocks are smooth goes by those ahead alone: plain. -/
import Derived.Test.YteekdggainficaaMB6
import Derived.Test.YteekdggainficaaMXstepladderlaw21VelvetCut
namespace Go.Proofs.Yteekdggainficaa.X
open Go.RowKit Go.Proofs.YteekdggainficaaW.PrintWords
theorem V.getD_take {l : List S36} {n i : Nat} (h : i < n) : (l.take n).getD i z36 = l.getD i z36 := by
  rw [List.getD_eq_getElem?_getD, List.getD_eq_getElem?_getD, List.getElem?_take_of_lt h]
theorem V.lnk_take {l : List S36} {n : Nat} : ∀ i : Nat, i ≤ n → V.lnk (l.take n) i = V.lnk l i
  | 0, _ => rfl
  | i + 1, h => by
    rw [V.lnk, V.lnk, V.lnk_take i (by omega), V.getD_take (by omega)]
theorem V.sm_take {l : List S36} {n i : Nat} (h : i < n) : V.sm (l.take n) i = V.sm l i := by
  unfold V.sm
  rw [V.lnk_take i (by omega), V.getD_take h]
theorem V.may_take {l : List S36} {n : Nat} (h1 : 1 ≤ n) (h : V.mayV l = true) : V.mayV (l.take n) = true := by
  unfold V.mayV S.mayB V.lev at h ⊢
  rw [List.map_take]
  generalize l.map (fun x => x.f1) = v at h ⊢
  simp only [Bool.and_eq_true, decide_eq_true_eq, Bool.not_eq_true', List.any_eq_false] at h ⊢
  obtain ⟨a, b, c, d⟩ := h
  refine ⟨by rw [List.length_take]; omega, by rw [List.length_take]; omega, ?_, fun x hx => d x (List.mem_of_mem_take hx)⟩
  rw [← c]
  show ((v.take n).getD 0 0 : Int) = v.getD 0 0
  rw [List.getD_eq_getElem?_getD, List.getD_eq_getElem?_getD, List.getElem?_take_of_lt (by omega)]
theorem V.smoothZ_at {l : List S36} (h : V.mayV l = true) {j : Nat} (hj : j < l.length) : (V.smoothZ l).getD j false = V.sm l j := by
  rw [V.smoothZ_is h, List.getD_eq_getElem?_getD, List.getElem?_map, List.getElem?_range hj]
  rfl
theorem P.cut_l0 (a b : List Bool) (n : Nat) (hn : n ≤ 1000) (ha : n ≤ a.length) (hb : n ≤ b.length) (h : ∀ j < n, a.getD j false = b.getD j false) (d : Nat) : ∀ (k i : Nat), n - i = d → i ≤ n → d < k → stepladderlaw21_VelvetCut.l0 k n a b i = some true := by
  induction d with
  | zero =>
    intro k i hd hi hk
    obtain ⟨k, rfl⟩ : ∃ m, k = m + 1 := ⟨k - 1, by omega⟩
    simp only [stepladderlaw21_VelvetCut.l0]
    rw [if_neg (by omega)]
  | succ d ih =>
    intro k i hd hi hk
    obtain ⟨k, rfl⟩ : ∃ m, k = m + 1 := ⟨k - 1, by omega⟩
    simp only [stepladderlaw21_VelvetCut.l0]
    have e : ((rdOf false a (i : Int)) != (rdOf false b (i : Int))) = false := by
      unfold rdOf
      rw [Int.toNat_natCast, h i (by omega)]
      simp
    rw [if_pos (by omega), if_pos (by omega), if_pos (by omega), if_pos (by omega), e, if_neg (by decide), P.nx (by omega)]
    exact ih k (i + 1) (by omega) (by omega) (by omega)
end Go.Proofs.Yteekdggainficaa.X
namespace Go.Proofs.Yteekdggainficaa.Pure
open Go.RowKit Go.Proofs.Yteekdggainficaa.X Go.Proofs.YteekdggainficaaW.PrintWords Go.Proofs.YteekdggainficaaW.PrintLast

theorem VelvetCut : ∀ (l0 : List S36) (a1 : Int), l0.length ≤ 9223372036854775807 → (∀ y ∈ l0, (Lit.int .i64 y.f1).wf = true) → (Lit.int .i64 a1).wf = true → ∃ k, stepladderlaw21_VelvetCut.f k l0 a1 = some true := by
  intro l a hl _ _
  refine ⟨l.length + 2000, ?_⟩
  obtain ⟨b, hb, hbt⟩ := P.few_f l hl (l.length + 2000) (by omega)
  have hj0 : ∀ k, stepladderlaw21_VelvetCut.j0 (k + 1) l a true true = some true := fun k => by simp only [stepladderlaw21_VelvetCut.j0, if_true]
  unfold stepladderlaw21_VelvetCut.f
  rw [P.awake21 _ (by omega), hb]
  simp only [Option.bind_some, if_true]
  cases b with
  | false => rw [if_neg (by decide)]; exact hj0 _
  | true =>
    obtain ⟨h210, _⟩ := hbt rfl
    rw [if_pos rfl, V.may_f l (by omega) _ (by omega)]
    simp only [Option.bind_some]
    cases hm : V.mayV l with
    | false => rw [if_neg (by decide)]; exact hj0 _
    | true =>
      rw [if_pos rfl]
      by_cases h1 : a < 1
      · rw [if_pos h1]; exact hj0 _
      rw [if_neg h1]
      by_cases h2 : a > (l.length : Int)
      · rw [decide_eq_true h2]; exact hj0 _
      rw [decide_eq_false h2]
      obtain ⟨n, rfl⟩ : ∃ n : Nat, a = n := ⟨a.toNat, by omega⟩
      have ht := V.may_take (n := n) (by omega) hm
      have l1 := (V.smoothZ_len l).2 hm
      have l2 := (V.smoothZ_len (l.take n)).2 ht
      rw [List.length_take] at l2
      rw [show l.length + 2000 = (l.length + 1999) + 1 from rfl]
      simp only [stepladderlaw21_VelvetCut.j0]
      rw [if_neg (by decide), P.smooth_f l (by omega), Int.toNat_natCast, P.smooth_f (l.take n) (by rw [List.length_take]; omega)]
      simp only [Option.bind_some]
      rw [if_pos (by omega), if_pos (by omega), if_pos (by omega), show (((V.smoothZ (l.take n)).length : Int) != (n : Int)) = false from by simp; omega]
      rw [show l.length + 1999 = (l.length + 1998) + 1 from rfl]
      simp only [stepladderlaw21_VelvetCut.j1]
      rw [if_neg (by decide)]
      refine P.cut_l0 _ _ n (by omega) (by omega) (by omega) (fun j hj => ?_) n _ 0 (by omega) (by omega) (by omega)
      rw [V.smoothZ_at hm (by omega), V.smoothZ_at ht (by rw [List.length_take]; omega), V.sm_take hj]

end Go.Proofs.Yteekdggainficaa.Pure
