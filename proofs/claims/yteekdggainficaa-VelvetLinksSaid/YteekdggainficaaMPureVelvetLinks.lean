/- Links begin by the first block, are places of smooth blocks ahead, and fall: plain. -/
import Derived.Test.YteekdggainficaaMB6
import Derived.Test.YteekdggainficaaMXstepladderlaw21VelvetLinks
namespace Go.Proofs.Yteekdggainficaa.X
open Go.RowKit Go.Proofs.YteekdggainficaaW.PrintWords
/-- What a list of links is: of blocks ahead of i. -/
structure V.Good (l : List S36) (i : Nat) (L : List Int) : Prop where
  pos : 1 ≤ L.length
  zero : rd L 0 = 0
  at_ : ∀ n : Nat, 1 ≤ n → n < L.length → 1 ≤ rd L n ∧ rd L n < i ∧ V.sm l (rd L n).toNat = true ∧ (n : Int) ≤ (l.getD (rd L n).toNat z36).f1
  fall : ∀ n : Nat, 1 ≤ n → n + 1 < L.length → rd L ((n + 1 : Nat) : Int) ≤ rd L n
theorem V.lnk_good {l : List S36} (hl : ∀ x ∈ l, 0 ≤ x.f1 ∧ x.f1 ≤ 31) : ∀ i : Nat, i ≤ l.length → V.Good l i (V.lnk l i)
  | 0, _ => ⟨by simp [V.lnk], rfl, fun n h1 h2 => by simp [V.lnk] at h2; omega, fun n h1 h2 => by simp [V.lnk] at h2⟩
  | i + 1, hi => by
    have ih := V.lnk_good hl i (by omega)
    by_cases h : i ≠ 0 ∧ V.sm l i = true
    · rw [V.lnk_hit h.1 h.2]
      have hlv := V.lev_at hl (i := i) (by omega)
      obtain ⟨m, hm⟩ : ∃ m : Nat, (l.getD i z36).f1 = m := ⟨(l.getD i z36).f1.toNat, by omega⟩
      rw [hm]
      have hlen := V.upd_len (i : Int) (m : Int) ih.pos
      have hr := fun j => V.rd_upd (n := m) (i : Int) ih.pos j
      refine ⟨by rw [hlen]; omega, ?_, fun n h1 h2 => ?_, fun n h1 h2 => ?_⟩
      · have := hr 0
        rw [if_neg (by omega)] at this
        exact this.trans ih.zero
      · rw [hr]
        by_cases c : n ≤ m
        · rw [if_pos ⟨h1, c⟩, Int.toNat_natCast]
          exact ⟨by omega, by omega, h.2, by rw [hm]; omega⟩
        · rw [if_neg (by omega)]
          obtain ⟨g1, g2, g3, g4⟩ := ih.at_ n h1 (by omega)
          exact ⟨g1, by omega, g3, g4⟩
      · rw [hr, hr]
        by_cases c : n + 1 ≤ m
        · rw [if_pos ⟨by omega, c⟩, if_pos ⟨h1, by omega⟩]; omega
        · rw [if_neg (by omega)]
          have g := ih.at_ (n + 1) (by omega) (by omega)
          by_cases c2 : n ≤ m
          · rw [if_pos ⟨h1, c2⟩]; omega
          · rw [if_neg (by omega)]
            exact ih.fall n h1 (by omega)
    · have hs : V.lnk l (i + 1) = V.lnk l i := V.lnk_skip (by
        by_cases c : i = 0
        · exact .inl c
        · right
          cases e : V.sm l i with
          | false => rfl
          | true => exact absurd ⟨c, e⟩ h)
      rw [hs]
      exact ⟨ih.pos, ih.zero, fun n h1 h2 => by have := ih.at_ n h1 h2; exact ⟨this.1, by omega, this.2.2⟩, ih.fall⟩

theorem V.smoothZ_at {l : List S36} (h : V.mayV l = true) {j : Nat} (hj : j < l.length) : (V.smoothZ l).getD j false = V.sm l j := by
  rw [V.smoothZ_is h, List.getD_eq_getElem?_getD, List.getElem?_map, List.getElem?_range hj]
  rfl

/-- The law's last question. -/
def P.lk_end (up s same there : Bool) : Bool := if up = true then (s == same) && (there == !same) else (s == false) && (there == false)
theorem P.lk_l1 (l : List S36) (i : Nat) (_hl : l.length ≤ 1000) (hi : i < l.length) (s : List Bool) (hs : s.length = l.length) (same : Bool) (t : List Int) (ht : t.length ≤ 1000) (d : Nat) : ∀ (k j : Nat) (th : Bool), t.length - j = d → j ≤ t.length → d < k →
    stepladderlaw21_VelvetLinks.l1 k l i s same t th j = some (P.lk_end (l.getD i z36).f0 (s.getD i false) same (th || decide ((i : Int) ∈ t.drop j))) := by
  induction d with
  | zero =>
    intro k j th hd hj hk
    obtain ⟨k, rfl⟩ : ∃ m, k = m + 1 := ⟨k - 1, by omega⟩
    have e : rd_T36 l (i : Int) = l.getD i z36 := by unfold rd_T36; rw [Int.toNat_natCast]
    have e2 : rdOf false s (i : Int) = s.getD i false := by unfold rdOf; rw [Int.toNat_natCast]
    simp only [stepladderlaw21_VelvetLinks.l1]
    rw [if_neg (by omega), if_pos (by omega), if_pos (by omega), if_pos (by omega), e, e2, List.drop_of_length_le (by omega), decide_eq_false (p := (i : Int) ∈ ([] : List Int)) (by simp), Bool.or_false]
    unfold P.lk_end
    cases (l.getD i z36).f0 <;> cases s.getD i false <;> cases same <;> cases th <;> rfl
  | succ d ih =>
    intro k j th hd hj hk
    obtain ⟨k, rfl⟩ : ∃ m, k = m + 1 := ⟨k - 1, by omega⟩
    have hjt : j < t.length := by omega
    have ih := fun th => ih k (j + 1) th (by omega) (by omega) (by omega)
    simp only [stepladderlaw21_VelvetLinks.l1]
    rw [if_pos (by omega), P.nx (by omega), List.drop_eq_getElem_cons hjt]
    cases th with
    | true => rw [if_pos rfl, ih]; simp
    | false =>
      rw [if_neg (by decide), if_pos (by omega), ih, rd_get hjt]
      congr 1
      congr 1
      rw [Bool.false_or, Bool.eq_iff_iff, Bool.or_eq_true, beq_iff_eq, decide_eq_true_eq, decide_eq_true_eq, List.mem_cons]
      exact ⟨fun h => h.imp Eq.symm id, fun h => h.imp Eq.symm id⟩
theorem P.lk_l0 (l : List S36) (i : Nat) (_hl : l.length ≤ 1000) (hi : i < l.length) (L : List Int) (hL : L.length ≤ 1000) (hg : V.Good l i L) (s : List Bool) (hs : s.length = l.length) (hss : ∀ j < l.length, s.getD j false = V.sm l j) (K : Nat) (hK : 2000 < K) (d : Nat) : ∀ (k n : Nat), L.length - n = d → 1 ≤ n → n ≤ L.length → k = K + d + 1 →
    stepladderlaw21_VelvetLinks.l0 k l i L s n = (velvet_Thorny.f K l).bind fun t => stepladderlaw21_VelvetLinks.l1 K l i s (decide (L = (l.getD i z36).f2)) t false 0 := by
  induction d with
  | zero =>
    intro k n hd h1 hn hk
    subst hk
    have e : rd_T36 l (i : Int) = l.getD i z36 := by unfold rd_T36; rw [Int.toNat_natCast]
    simp only [stepladderlaw21_VelvetLinks.l0]
    rw [if_neg (by omega), if_pos (by omega), if_pos (by omega), e, P.ints _ _ (by omega) _ (by omega)]
    rfl
  | succ d ih =>
    intro k n hd h1 hn hk
    subst hk
    obtain ⟨g1, g2, g3, g4⟩ := hg.at_ n h1 (by omega)
    obtain ⟨x, hx⟩ : ∃ x : Nat, rd L n = x := ⟨(rd L n).toNat, by omega⟩
    rw [hx] at g1 g2 g3 g4
    rw [Int.toNat_natCast] at g3 g4
    have e : rd_T36 l (x : Int) = l.getD x z36 := by unfold rd_T36; rw [Int.toNat_natCast]
    have e2 : rdOf false s (x : Int) = true := by unfold rdOf; rw [Int.toNat_natCast, hss x (by omega), g3]
    have ih := ih (K + d + 1) (n + 1) (by omega) (by omega) (by omega) rfl
    simp only [stepladderlaw21_VelvetLinks.l0]
    rw [if_pos (by omega), if_pos (by omega), hx, if_neg (by omega), if_neg (by omega), if_pos (by omega), if_pos (by omega), e2, if_pos rfl, if_pos (by omega), e, if_neg (by omega), P.nx (by omega)]
    by_cases c : (n : Int) > 1
    · rw [if_pos c, show wrap64 ((n : Int) - 1) = ((n - 1 : Nat) : Int) from by rw [E.wrap_id (by omega) (by omega)]; omega, if_pos (by omega), if_pos (by omega)]
      have := hg.fall (n - 1) (by omega) (by omega)
      rw [show n - 1 + 1 = n from by omega, hx] at this
      rw [if_neg (by omega)]
      exact ih
    · rw [if_neg c]
      exact ih
end Go.Proofs.Yteekdggainficaa.X
namespace Go.Proofs.Yteekdggainficaa.Pure
open Go.RowKit Go.Proofs.Yteekdggainficaa.X Go.Proofs.YteekdggainficaaW.PrintWords Go.Proofs.YteekdggainficaaW.PrintLast

theorem VelvetLinks : ∀ (l0 : List S36) (a1 : Int), l0.length ≤ 9223372036854775807 → (∀ y ∈ l0, (Lit.int .i64 y.f1).wf = true) → (Lit.int .i64 a1).wf = true → ∃ k, stepladderlaw21_VelvetLinks.f k l0 a1 = some true := by
  intro l a hl _ _
  refine ⟨l.length + 8000, ?_⟩
  obtain ⟨b, hb, hbt⟩ := P.few_f l hl (l.length + 8000) (by omega)
  have hj0 : ∀ k, stepladderlaw21_VelvetLinks.j0 (k + 1) l a true true = some true := fun k => by simp only [stepladderlaw21_VelvetLinks.j0, if_true]
  unfold stepladderlaw21_VelvetLinks.f
  rw [P.awake21 _ (by omega), hb]
  simp only [Option.bind_some, if_true]
  cases b with
  | false => rw [if_neg (by decide)]; exact hj0 _
  | true =>
    obtain ⟨h210, _⟩ := hbt rfl
    rw [if_pos rfl]
    by_cases h1 : a < 1
    · rw [if_pos h1]; exact hj0 _
    rw [if_neg h1]
    by_cases h2 : a ≥ (l.length : Int)
    · rw [if_pos h2]; exact hj0 _
    rw [if_neg h2, V.may_f l (by omega) _ (by omega)]
    simp only [Option.bind_some]
    cases hm : V.mayV l with
    | false => exact hj0 _
    | true =>
      obtain ⟨i, rfl⟩ : ∃ i : Nat, a = i := ⟨a.toNat, by omega⟩
      have hlv := V.may_lev hm
      have hg := V.lnk_good hlv i (by omega)
      have hlen := V.lnk_len l (fun x hx => (hlv x hx).2) i
      have hsl := (V.smoothZ_len l).2 hm
      rw [show l.length + 8000 = (l.length + 7999) + 1 from rfl]
      simp only [stepladderlaw21_VelvetLinks.j0]
      rw [if_neg (by decide), P.links_f l _ (by omega), P.smooth_f l (by omega), V.linksZ_is hm (by omega) (by omega), Int.toNat_natCast]
      simp only [Option.bind_some]
      rw [if_neg (by omega), if_pos (by omega), if_pos hg.zero, show (((V.smoothZ l).length : Int) != (l.length : Int)) = false from by simp; omega]
      rw [show l.length + 7999 = (l.length + 7998) + 1 from rfl]
      simp only [stepladderlaw21_VelvetLinks.j1]
      rw [if_neg (by decide)]
      have h0 := P.lk_l0 l i (by omega) (by omega) (V.lnk l i) (by omega) hg (V.smoothZ l) hsl (fun j hj => V.smoothZ_at hm hj) (l.length + 7997 - ((V.lnk l i).length - 1)) (by omega) ((V.lnk l i).length - 1) (l.length + 7998) 1 rfl (by omega) (by omega) (by omega)
      rw [show ((1 : Nat) : Int) = 1 from rfl] at h0
      rw [h0, P.thorny_f l (by omega) _ (by omega)]
      simp only [Option.bind_some]
      have htl : (V.thornyL l).length ≤ 1000 := Nat.le_trans (V.thTo_len _ _ _) (by omega)
      have h3 := P.lk_l1 l i (by omega) (by omega) (V.smoothZ l) hsl (decide (V.lnk l i = (l.getD i z36).f2)) (V.thornyL l) htl _ (l.length + 7997 - ((V.lnk l i).length - 1)) 0 false rfl (by omega) (by omega)
      rw [show ((0 : Nat) : Int) = 0 from rfl] at h3
      rw [h3]
      congr 1
      rw [V.smoothZ_at hm (by omega), List.drop_zero, Bool.false_or]
      have hth : decide ((i : Int) ∈ V.thornyL l) = ((l.getD i z36).f0 && !V.sm l i) := by
        rw [Bool.eq_iff_iff, decide_eq_true_eq, Bool.and_eq_true, Bool.not_eq_true']
        unfold V.thornyL
        rw [V.thTo_mem]
        constructor
        · rintro ⟨j, e, h4, h5, h6⟩
          obtain rfl : i = j := by omega
          rw [V.smoothZ_at hm (by omega)] at h6
          exact ⟨h5, h6⟩
        · rintro ⟨h5, h6⟩
          exact ⟨i, rfl, by omega, h5, by rw [V.smoothZ_at hm (by omega)]; exact h6⟩
      rw [hth]
      have hsm : V.sm l i = ((l.getD i z36).f0 && decide (V.lnk l i = (l.getD i z36).f2)) := by
        unfold V.sm V.isB
        rw [decide_eq_false (p := i = 0) (by omega), Bool.false_or]
        congr 1
        rw [decide_eq_decide]
        exact eq_comm
      rw [hsm]
      unfold P.lk_end
      cases (l.getD i z36).f0 <;> cases decide (V.lnk l i = (l.getD i z36).f2) <;> rfl

end Go.Proofs.Yteekdggainficaa.Pure
