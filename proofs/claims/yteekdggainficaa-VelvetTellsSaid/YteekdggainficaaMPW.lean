/- What the document's answers for velvet come to, as the print has them. -/
import Derived.Test.YteekdggainficaaMB6
import Derived.Test.YteekdggainficaaMPR
import Derived.Test.YteekdggainficaaMXstepladderref21May
import Derived.Test.YteekdggainficaaMXstepladderref21Links
import Derived.Test.YteekdggainficaaMXstepladderref21Thorny
import Derived.Test.YteekdggainficaaMXstepladderref21Prefix
import Derived.Test.YteekdggainficaaMXstepladderref21Bools
namespace Go.Proofs.Yteekdggainficaa.X
open Go.RowKit Go.Proofs.YteekdggainficaaW.PrintWords

theorem P.rdT (l : List S36) (i : Nat) : rd_T36 l (i : Int) = l.getD i z36 := by unfold rd_T36; rw [Int.toNat_natCast]
theorem P.rdB (s : List Bool) (i : Nat) : rdOf false s (i : Int) = s.getD i false := by unfold rdOf; rw [Int.toNat_natCast]

theorem P.r21_levels_l0 (l : List S36) (hl : l.length ≤ 1000) (d : Nat) : ∀ (k i : Nat), l.length - i = d → i ≤ l.length → d < k → stepladderref21_levels.l0 k l ((V.lev l).take i) i = some (V.lev l) := by
  have hll : (V.lev l).length = l.length := by unfold V.lev; rw [List.length_map]
  induction d with
  | zero =>
    intro k i hd hi hk
    obtain ⟨k, rfl⟩ : ∃ m, k = m + 1 := ⟨k - 1, by omega⟩
    simp only [stepladderref21_levels.l0]
    rw [if_neg (by omega), List.take_of_length_le (by omega)]
  | succ d ih =>
    intro k i hd hi hk
    obtain ⟨k, rfl⟩ : ∃ m, k = m + 1 := ⟨k - 1, by omega⟩
    have h1 : i < l.length := by omega
    have e1 : (l.getD i z36).f1 = (V.lev l)[i]'(by omega) := by
      unfold V.lev
      rw [List.getD_eq_getElem?_getD, List.getElem?_eq_getElem h1, List.getElem_map]
      rfl
    simp only [stepladderref21_levels.l0]
    rw [if_pos (by omega), if_pos (by omega), if_pos (by rw [List.length_take]; omega), P.rdT, e1, ← List.take_succ_eq_append_getElem (by omega), P.nx (by omega)]
    exact ih k (i + 1) (by omega) (by omega) (by omega)
theorem P.r21_may_f (l : List S36) (hl : l.length ≤ 210) (k : Nat) (hk : 300 < k) : stepladderref21_May.f k l = some (V.mayV l) := by
  have h := P.r21_levels_l0 l (by omega) l.length k 0 (by omega) (by omega) (by omega)
  unfold stepladderref21_May.f stepladderref21_levels.f
  rw [show ([] : List Int) = (V.lev l).take 0 from rfl, show (0 : Int) = ((0 : Nat) : Int) from rfl, h]
  simp only [Option.bind_some]
  rw [P.r14_may _ (by unfold V.lev; rw [List.length_map]; exact hl) k hk]
  rfl

/-! ### links -/
theorem V.set_last (L : List Int) (x : Int) : (L ++ [x]).set L.length x = L ++ [x] := by
  rw [List.set_append_right _ _ (Nat.le_refl _), Nat.sub_self]
  rfl
theorem P.r21_links_l1 (l : List S36) (s : List Bool) (i j : Nat) (hj : j < l.length) (hjs : j < s.length) (hj1 : j ≤ 1000) (hs : s.getD j false = true) (L : List Int) (hL : 1 ≤ L.length ∧ L.length ≤ 32) (m : Nat) (hm : (l.getD j z36).f1 = m) (hm31 : m ≤ 31) (r : List Int) (B : Nat)
    (H : ∀ k, B ≤ k → stepladderref21_links.l0 k l s i (V.upd L j m) ((j + 1 : Nat) : Int) = some r) (d : Nat) : ∀ (k p : Nat), m - p = d → p ≤ m → B + 2 * d + 2 ≤ k → stepladderref21_links.l1 k l s i (V.upd L j p) j ((p + 1 : Nat) : Int) = some r := by
  induction d with
  | zero =>
    intro k p hd hp hk
    obtain ⟨k, rfl⟩ : ∃ m, k = m + 2 := ⟨k - 2, by omega⟩
    obtain rfl : p = m := by omega
    simp only [stepladderref21_links.l1]
    rw [if_pos (by omega), if_pos (by omega), P.rdB, hs, if_pos rfl, if_pos (by omega), P.rdT, hm, decide_eq_false (by omega)]
    simp only [stepladderref21_links.j2]
    rw [if_neg (by decide), P.nx (by omega)]
    exact H k (by omega)
  | succ d ih =>
    intro k p hd hp hk
    obtain ⟨k, rfl⟩ : ∃ m, k = m + 2 := ⟨k - 2, by omega⟩
    have hlen := V.upd_len (j : Int) (p : Int) hL.1
    have hput := V.put_upd (n := p) (j : Int) hL.1
    have ih := ih k (p + 1) (by omega) (by omega) (by omega)
    unfold V.put at hput
    simp only [stepladderref21_links.l1]
    rw [if_pos (by omega), if_pos (by omega), P.rdB, hs, if_pos rfl, if_pos (by omega), P.rdT, hm, decide_eq_true (by omega)]
    simp only [stepladderref21_links.j2]
    rw [if_pos trivial]
    by_cases c : ((p + 1 : Nat) : Int) = ((V.upd L j p).length : Int)
    · rw [if_neg (by omega)] at hput
      rw [if_pos c, if_pos (by omega)]
      simp only [Option.bind_some]
      rw [if_pos (by omega), if_pos (by rw [List.length_append, List.length_singleton]; omega), Int.toNat_natCast, show p + 1 = (V.upd L j p).length from by omega, V.set_last]
      rw [show ((V.upd L j p).length : Int) = ((p + 1 : Nat) : Int) from c.symm, P.nx (by omega), hput]
      exact ih
    · rw [if_pos (by omega)] at hput
      rw [if_neg c, if_pos (by omega), if_pos (by omega), Int.toNat_natCast, P.nx (by omega), hput]
      exact ih
theorem P.r21_links_l0 (l : List S36) (hl : l.length ≤ 1000) (hlv : ∀ x ∈ l, 0 ≤ x.f1 ∧ x.f1 ≤ 31) (s : List Bool) (i : Nat) (hi : i ≤ l.length) (his : i ≤ s.length) (hs : ∀ j < i, s.getD j false = V.sm l j) (d : Nat) : ∀ (k j : Nat), i - j = d → 1 ≤ j → j ≤ i → 70 * d < k →
    stepladderref21_links.l0 k l s i (V.lnk l j) j = some (V.lnk l i) := by
  induction d with
  | zero =>
    intro k j hd h1 hj hk
    obtain ⟨k, rfl⟩ : ∃ m, k = m + 1 := ⟨k - 1, by omega⟩
    obtain rfl : j = i := by omega
    simp only [stepladderref21_links.l0]
    rw [if_neg (by omega)]
  | succ d ih =>
    intro k j hd h1 hj hk
    obtain ⟨k, rfl⟩ : ∃ m, k = m + 1 := ⟨k - 1, by omega⟩
    simp only [stepladderref21_links.l0]
    rw [if_pos (by omega)]
    have hL := V.lnk_len l (fun x hx => (hlv x hx).2) j
    have hlj := V.lev_at hlv (i := j) (by omega)
    cases hsm : V.sm l j with
    | true =>
      obtain ⟨m, hm⟩ : ∃ m : Nat, (l.getD j z36).f1 = m := ⟨(l.getD j z36).f1.toNat, by omega⟩
      have hh := V.lnk_hit (l := l) (i := j) (by omega) hsm
      rw [hm] at hh
      have := P.r21_links_l1 l s i j (by omega) (by omega) (by omega) (by rw [hs j (by omega), hsm]) (V.lnk l j) hL m hm (by omega) (V.lnk l i) (70 * d + 1) (fun k hk => by rw [← hh]; exact ih k (j + 1) (by omega) (by omega) (by omega) (by omega)) m k 0 (by omega) (by omega) (by omega)
      rw [show ((0 : Nat) : Int) = 0 from rfl, V.upd_zero] at this
      exact this
    | false =>
      have hh := V.lnk_skip (l := l) (i := j) (.inr hsm)
      obtain ⟨k, rfl⟩ : ∃ m, k = m + 2 := ⟨k - 2, by omega⟩
      simp only [stepladderref21_links.l1]
      rw [if_pos (by omega), if_pos (by omega), P.rdB, hs j (by omega), hsm, if_neg (by decide)]
      simp only [stepladderref21_links.j2]
      rw [if_neg (by decide), P.nx (by omega), ← hh]
      exact ih k (j + 1) (by omega) (by omega) (by omega) (by omega)
theorem P.r21_links_f (l : List S36) (hl : l.length ≤ 210) (hlv : ∀ x ∈ l, 0 ≤ x.f1 ∧ x.f1 ≤ 31) (s : List Bool) (i : Nat) (h1 : 1 ≤ i) (hi : i ≤ l.length) (his : i ≤ s.length) (hs : ∀ j < i, s.getD j false = V.sm l j) (k : Nat) (hk : 15000 < k) :
    stepladderref21_links.f k l s i = some (V.lnk l i) := by
  have := P.r21_links_l0 l (by omega) hlv s i hi his hs (i - 1) k 1 (by omega) (by omega) (by omega) (by omega)
  exact this

/-! ### Smooth -/
theorem V.sms_at (l : List S36) {n j : Nat} (h : j < n) : ((List.range n).map (V.sm l)).getD j false = V.sm l j := by
  rw [List.getD_eq_getElem?_getD, List.getElem?_map, List.getElem?_range h]
  rfl
theorem P.r21_smooth_l0 (l : List S36) (hl : l.length ≤ 210) (hlv : ∀ x ∈ l, 0 ≤ x.f1 ∧ x.f1 ≤ 31) (hc : ∀ j < l.length, (l.getD j z36).f2.length ≤ 40) (d : Nat) : ∀ (k i : Nat), l.length - i = d → 1 ≤ i → i ≤ l.length → 16000 + d < k →
    stepladderref21_Smooth.l0 k l ((List.range i).map (V.sm l)) i = some ((List.range l.length).map (V.sm l)) := by
  induction d with
  | zero =>
    intro k i hd h1 hi hk
    obtain ⟨k, rfl⟩ : ∃ m, k = m + 1 := ⟨k - 1, by omega⟩
    obtain rfl : i = l.length := by omega
    simp only [stepladderref21_Smooth.l0]
    rw [if_neg (by omega)]
  | succ d ih =>
    intro k i hd h1 hi hk
    obtain ⟨k, rfl⟩ : ∃ m, k = m + 1 := ⟨k - 1, by omega⟩
    have hsn : (List.range (i + 1)).map (V.sm l) = (List.range i).map (V.sm l) ++ [V.sm l i] := by rw [List.range_succ, List.map_append]; rfl
    have hsm : V.sm l i = ((l.getD i z36).f0 && decide ((l.getD i z36).f2 = V.lnk l i)) := by
      unfold V.sm V.isB
      rw [decide_eq_false (p := i = 0) (by omega), Bool.false_or]
    have hci := hc i (by omega)
    have ih := ih k (i + 1) (by omega) (by omega) (by omega) (by omega)
    rw [hsn, hsm] at ih
    simp only [stepladderref21_Smooth.l0]
    rw [if_pos (by omega), if_pos (by omega), P.r21_links_f l hl hlv _ i h1 (by omega) (by simp) (fun j hj => V.sms_at l hj) k (by omega)]
    simp only [Option.bind_some]
    rw [P.rdT, P.ints _ _ (by omega) k (by omega)]
    simp only [Option.bind_some]
    rw [P.nx (by omega)]
    cases h0 : (l.getD i z36).f0 with
    | true =>
      rw [h0, Bool.true_and] at ih
      rw [if_pos rfl, if_pos (by simp; omega)]
      exact ih
    | false =>
      rw [h0, Bool.false_and] at ih
      rw [if_neg (by decide), if_pos (by simp; omega)]
      exact ih
theorem P.r21_smooth_f (l : List S36) (hl : l.length ≤ 210) (hc : ∀ j < l.length, (l.getD j z36).f2.length ≤ 40) (k : Nat) (hk : 17000 < k) : stepladderref21_Smooth.f k l = some (V.smoothZ l) := by
  unfold stepladderref21_Smooth.f
  rw [P.r21_may_f l hl k (by omega)]
  simp only [Option.bind_some]
  cases hm : V.mayV l with
  | false =>
    rw [if_neg (by decide)]
    unfold V.smoothZ
    rw [hm, if_neg (by decide)]
  | true =>
    have h1 : 1 ≤ l.length := by
      unfold V.mayV S.mayB at hm
      simp only [Bool.and_eq_true, decide_eq_true_eq] at hm
      have := hm.1
      unfold V.lev at this
      rw [List.length_map] at this
      omega
    have := P.r21_smooth_l0 l hl (V.may_lev hm) hc (l.length - 1) k 1 rfl (by omega) (by omega) (by omega)
    rw [if_pos rfl, V.smoothZ_is hm]
    exact this
theorem V.smZ_at {l : List S36} (h : V.mayV l = true) {j : Nat} (hj : j < l.length) : (V.smoothZ l).getD j false = V.sm l j := by
  rw [V.smoothZ_is h]
  exact V.sms_at l hj
theorem P.r21_Links_f (l : List S36) (a : Int) (hl : l.length ≤ 210) (hc : ∀ j < l.length, (l.getD j z36).f2.length ≤ 40) (k : Nat) (hk : 17001 < k) : stepladderref21_Links.f k l a = some (V.linksZ l a) := by
  obtain ⟨k, rfl⟩ : ∃ m, k = m + 1 := ⟨k - 1, by omega⟩
  have hj : ¬(V.mayV l = true ∧ 1 ≤ a ∧ a < l.length) → stepladderref21_Links.j0 (k + 1) l a true = some (V.linksZ l a) := fun h => by
    simp only [stepladderref21_Links.j0]
    rw [if_pos trivial]
    unfold V.linksZ
    rw [if_neg h]
  unfold stepladderref21_Links.f
  rw [P.r21_may_f l hl _ (by omega)]
  simp only [Option.bind_some]
  cases hm : V.mayV l with
  | false => rw [if_neg (by decide)]; exact hj (fun h => by rw [hm] at h; exact absurd h.1 (by decide))
  | true =>
    rw [if_pos rfl]
    by_cases h1 : a < 1
    · rw [if_pos h1]; exact hj (fun h => by omega)
    rw [if_neg h1]
    by_cases h2 : a ≥ (l.length : Int)
    · rw [decide_eq_true h2]; exact hj (fun h => by omega)
    rw [decide_eq_false h2]
    obtain ⟨i, rfl⟩ : ∃ i : Nat, a = i := ⟨a.toNat, by omega⟩
    have hs := (V.smoothZ_len l).2 hm
    simp only [stepladderref21_Links.j0]
    rw [if_neg (by decide), P.r21_smooth_f l hl hc k (by omega)]
    simp only [Option.bind_some]
    rw [P.r21_links_f l hl (V.may_lev hm) _ i (by omega) (by omega) (by omega) (fun j hj => V.smZ_at hm (by omega)) k (by omega), V.linksZ_is hm (by omega) (by omega), Int.toNat_natCast]
    rfl

/-! ### Thorny, Bools -/
theorem P.r21_thorny_l0 (l : List S36) (s : List Bool) (hs : s.length ≤ l.length) (hl : l.length ≤ 1000) (d : Nat) : ∀ (k i : Nat), s.length - i = d → i ≤ s.length → d < k →
    stepladderref21_Thorny.l0 k l (V.thTo l s i) s i = some (V.thTo l s s.length) := by
  induction d with
  | zero =>
    intro k i hd hi hk
    obtain ⟨k, rfl⟩ : ∃ m, k = m + 1 := ⟨k - 1, by omega⟩
    obtain rfl : i = s.length := by omega
    simp only [stepladderref21_Thorny.l0]
    rw [if_neg (by omega)]
  | succ d ih =>
    intro k i hd hi hk
    obtain ⟨k, rfl⟩ : ∃ m, k = m + 1 := ⟨k - 1, by omega⟩
    have hlen := V.thTo_len l s i
    have ih := ih k (i + 1) (by omega) (by omega) (by omega)
    rw [V.thTo_succ] at ih
    simp only [stepladderref21_Thorny.l0]
    rw [if_pos (by omega), if_pos (by omega), if_pos (by omega), P.rdT, P.rdB, P.nx (by omega)]
    cases h0 : (l.getD i z36).f0 with
    | false =>
      rw [h0] at ih
      rw [if_neg (by decide)]
      rw [if_neg (by simp)] at ih
      exact ih
    | true =>
      rw [h0] at ih
      rw [if_pos rfl]
      cases h1 : s.getD i false with
      | true =>
        rw [h1] at ih
        rw [if_pos rfl]
        rw [if_neg (by decide)] at ih
        exact ih
      | false =>
        rw [h1] at ih
        rw [if_neg (by decide), if_pos (by omega)]
        rw [if_pos (by decide)] at ih
        exact ih
theorem P.r21_thorny_f (l : List S36) (hl : l.length ≤ 210) (hc : ∀ j < l.length, (l.getD j z36).f2.length ≤ 40) (k : Nat) (hk : 17001 < k) : stepladderref21_Thorny.f k l = some (V.thornyL l) := by
  have hs := (V.smoothZ_len l).1
  unfold stepladderref21_Thorny.f
  rw [P.r21_smooth_f l hl hc k (by omega)]
  simp only [Option.bind_some]
  exact P.r21_thorny_l0 l _ hs (by omega) _ k 0 rfl (by omega) (by omega)
theorem P.bools_l0 (a : List Bool) (ha : a.length ≤ 1000) (d : Nat) : ∀ (k i : Nat), a.length - i = d → i ≤ a.length → d < k → stepladderref21_Bools.l0 k a a i = some true := by
  induction d with
  | zero =>
    intro k i hd hi hk
    obtain ⟨k, rfl⟩ : ∃ m, k = m + 1 := ⟨k - 1, by omega⟩
    simp only [stepladderref21_Bools.l0]
    rw [if_neg (by omega)]
  | succ d ih =>
    intro k i hd hi hk
    obtain ⟨k, rfl⟩ : ∃ m, k = m + 1 := ⟨k - 1, by omega⟩
    simp only [stepladderref21_Bools.l0]
    rw [if_pos (by omega), if_pos (by omega), if_pos (by omega), show ((rdOf false a (i : Int)) != (rdOf false a (i : Int))) = false from by simp, if_neg (by decide), P.nx (by omega)]
    exact ih k (i + 1) (by omega) (by omega) (by omega)
theorem P.bools_f (a : List Bool) (ha : a.length ≤ 1000) (k : Nat) (hk : a.length < k) : stepladderref21_Bools.f k a a = some true := by
  unfold stepladderref21_Bools.f
  rw [if_pos rfl]
  exact P.bools_l0 a ha a.length k 0 (by omega) (by omega) hk

end Go.Proofs.Yteekdggainficaa.X
