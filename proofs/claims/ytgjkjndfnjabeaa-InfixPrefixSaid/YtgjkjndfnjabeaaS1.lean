/- Plain facts on places: no program in sight. -/
import Derived.Test.YtgjkjndfnjabeaaS
namespace Go.Proofs.Ytgjkjndfnjabeaa.X
open Go.Proofs.YtgjkjndfnjabeaaW.PrintWords

theorem rd_get {l : List Int} {i : Nat} (h : i < l.length) : rd l i = l[i] := by
  simp [rd, List.getElem?_eq_getElem h, List.getD_eq_getElem?_getD]
theorem rd_cons_zero (x : Int) (l : List Int) : rd (x :: l) 0 = x := rfl
theorem rd_cons_succ (x : Int) (l : List Int) (i : Nat) : rd (x :: l) ((i : Int) + 1) = rd l i := by
  have : ((i : Int) + 1).toNat = i + 1 := by omega
  simp [rd, this]

/-- Rising. -/
abbrev S.Up (a : List Int) : Prop := a.Pairwise (· < ·)

theorem S.upFrom_mem (l : List Int) : ∀ (i fr hi n x : Int), x ∈ S.upFrom l i fr hi n ↔ ∃ j : Nat, x = i + j ∧ j < l.length ∧ fr ≤ x ∧ x < hi ∧ n ≤ rd l j := by
  induction l with
  | nil => intro i fr hi n x; simp [S.upFrom]
  | cons y l ih =>
    intro i fr hi n x
    have hr : x ∈ S.upFrom l (i + 1) fr hi n ↔ ∃ j : Nat, x = i + (j + 1 : Nat) ∧ j + 1 < (y :: l).length ∧ fr ≤ x ∧ x < hi ∧ n ≤ rd (y :: l) ((j + 1 : Nat) : Int) := by
      rw [ih]
      refine exists_congr fun j => ?_
      have e : rd (y :: l) ((j + 1 : Nat) : Int) = rd l j := by rw [← rd_cons_succ y l j]; rfl
      rw [e, List.length_cons]
      constructor
      · rintro ⟨h1, h2, h3⟩; exact ⟨by omega, by omega, h3⟩
      · rintro ⟨h1, h2, h3⟩; exact ⟨by omega, by omega, h3⟩
    have hsplit : (∃ j : Nat, x = i + j ∧ j < (y :: l).length ∧ fr ≤ x ∧ x < hi ∧ n ≤ rd (y :: l) j) ↔ (x = i ∧ fr ≤ x ∧ x < hi ∧ n ≤ y) ∨ ∃ j : Nat, x = i + (j + 1 : Nat) ∧ j + 1 < (y :: l).length ∧ fr ≤ x ∧ x < hi ∧ n ≤ rd (y :: l) ((j + 1 : Nat) : Int) := by
      constructor
      · rintro ⟨j, h1, h2, h3, h4, h5⟩
        cases j with
        | zero => exact .inl ⟨by omega, h3, h4, h5⟩
        | succ j => exact .inr ⟨j, h1, h2, h3, h4, h5⟩
      · rintro (⟨h1, h3, h4, h5⟩ | ⟨j, h⟩)
        · exact ⟨0, by omega, by simp, h3, h4, h5⟩
        · exact ⟨j + 1, h⟩
    rw [hsplit]
    unfold S.upFrom
    by_cases hc : fr ≤ i ∧ i < hi ∧ n ≤ y
    · rw [if_pos hc, List.mem_cons, hr]
      constructor
      · rintro (rfl | h)
        · exact .inl ⟨rfl, hc⟩
        · exact .inr h
      · rintro (⟨h, _⟩ | h)
        · exact .inl h
        · exact .inr h
    · rw [if_neg hc, hr]
      constructor
      · exact .inr
      · rintro (⟨rfl, h⟩ | h)
        · exact absurd h hc
        · exact h

theorem S.upFrom_up (l : List Int) : ∀ (i fr hi n : Int), S.Up (S.upFrom l i fr hi n) := by
  induction l with
  | nil => intro i fr hi n; exact List.Pairwise.nil
  | cons y l ih =>
    intro i fr hi n
    unfold S.upFrom
    split
    · refine List.Pairwise.cons (fun x hx => ?_) (ih _ _ _ _)
      obtain ⟨j, h, _⟩ := (S.upFrom_mem l _ _ _ _ _).1 hx
      omega
    · exact ih _ _ _ _

theorem S.upZ_mem {l : List Int} {fr hi n x : Int} : x ∈ S.upZ l fr hi n ↔ 0 ≤ x ∧ x < l.length ∧ fr ≤ x ∧ x < hi ∧ n ≤ rd l x := by
  unfold S.upZ
  rw [S.upFrom_mem]
  constructor
  · rintro ⟨j, rfl, h2, h3, h4, h5⟩
    have e : (0 : Int) + j = j := by omega
    rw [e] at h3 h4 ⊢
    exact ⟨by omega, by omega, h3, h4, h5⟩
  · rintro ⟨h0, h1, h3, h4, h5⟩
    refine ⟨x.toNat, by omega, by omega, h3, h4, ?_⟩
    rw [show ((x.toNat : Nat) : Int) = x from by omega]
    exact h5
theorem S.upZ_up (l : List Int) (fr hi n : Int) : S.Up (S.upZ l fr hi n) := S.upFrom_up l 0 fr hi n

theorem S.up_ext : ∀ {a b : List Int}, S.Up a → S.Up b → (∀ x, x ∈ a ↔ x ∈ b) → a = b
  | [], [], _, _, _ => rfl
  | [], y :: b, _, _, h => by have := (h y).2 (by simp); simp at this
  | x :: a, [], _, _, h => by have := (h x).1 (by simp); simp at this
  | x :: a, y :: b, ha, hb, h => by
    obtain ⟨ha1, ha2⟩ := List.pairwise_cons.1 ha
    obtain ⟨hb1, hb2⟩ := List.pairwise_cons.1 hb
    have hxy : x = y := by
      rcases List.mem_cons.1 ((h x).1 (by simp)) with e | e
      · exact e
      · rcases List.mem_cons.1 ((h y).2 (by simp)) with e' | e'
        · exact e'.symm
        · have := ha1 _ e'; have := hb1 _ e; omega
    subst hxy
    rw [S.up_ext ha2 hb2 (fun z => ?_)]
    have := h z
    rw [List.mem_cons, List.mem_cons] at this
    constructor
    · intro hz
      rcases this.1 (.inr hz) with e | e
      · have := ha1 _ hz; omega
      · exact e
    · intro hz
      rcases this.2 (.inr hz) with e | e
      · have := hb1 _ hz; omega
      · exact e

theorem S.up_filter {a : List Int} (h : S.Up a) (p : Int → Bool) : S.Up (a.filter p) := List.Pairwise.filter p h

theorem S.upZ_filter (l : List Int) {fr fr' : Int} (h : fr ≤ fr') (hi n : Int) : S.upZ l fr' hi n = (S.upZ l fr hi n).filter fun x => decide (fr' ≤ x) := by
  refine S.up_ext (S.upZ_up _ _ _ _) (S.up_filter (S.upZ_up _ _ _ _) _) fun x => ?_
  rw [List.mem_filter, S.upZ_mem, S.upZ_mem, decide_eq_true_eq]
  constructor
  · rintro ⟨h0, h1, h2, h3⟩; exact ⟨⟨h0, h1, by omega, h3⟩, h2⟩
  · rintro ⟨⟨h0, h1, h2, h3⟩, h4⟩; exact ⟨h0, h1, h4, h3⟩
theorem S.upZ_level (l : List Int) (fr hi : Int) {n n' : Int} (h : n ≤ n') : S.upZ l fr hi n' = (S.upZ l fr hi n).filter fun x => decide (n' ≤ rd l x) := by
  refine S.up_ext (S.upZ_up _ _ _ _) (S.up_filter (S.upZ_up _ _ _ _) _) fun x => ?_
  rw [List.mem_filter, S.upZ_mem, S.upZ_mem, decide_eq_true_eq]
  constructor
  · rintro ⟨h0, h1, h2, h3, h4⟩; exact ⟨⟨h0, h1, h2, h3, by omega⟩, h4⟩
  · rintro ⟨⟨h0, h1, h2, h3, h4⟩, h5⟩; exact ⟨h0, h1, h2, h3, h5⟩

/-- Of a rising list what is not below x is its end. -/
theorem S.up_suffix : ∀ {a : List Int} (_ : S.Up a) (x : Int), (a.filter fun y => decide (x ≤ y)) <:+ a
  | [], _, _ => List.suffix_refl _
  | y :: a, h, x => by
    obtain ⟨h1, h2⟩ := List.pairwise_cons.1 h
    by_cases hy : x ≤ y
    · rw [List.filter_eq_self.2 (fun z hz => ?_)]
      · exact List.suffix_refl _
      · rcases List.mem_cons.1 hz with rfl | hz
        · simpa using hy
        · have := h1 z hz; simp; omega
    · rw [List.filter_cons_of_neg (by simpa using hy)]
      exact (S.up_suffix h2 x).trans (List.suffix_cons y a)

theorem rd_append_right (s t : List Int) (i : Nat) : rd (s ++ t) ((s.length + i : Nat) : Int) = rd t i := by
  simp only [rd, Int.toNat_natCast, List.getD_eq_getElem?_getD]
  rw [List.getElem?_append_right (by omega), Nat.add_sub_cancel_left]

theorem S.suffix_rd {L U : List Int} (h : L <:+ U) {m : Int} (_h1 : 0 ≤ m) (hm : m ≤ L.length) : rd L ((L.length : Int) - m) = rd U ((U.length : Int) - m) := by
  obtain ⟨s, rfl⟩ := h
  obtain ⟨j, hj⟩ : ∃ j : Nat, (L.length : Int) - m = j := ⟨((L.length : Int) - m).toNat, by omega⟩
  rw [hj, show ((s ++ L).length : Int) - m = ((s.length + j : Nat) : Int) from by rw [List.length_append]; omega, rd_append_right]

theorem S.suffix_mthLast {L U : List Int} (h : L <:+ U) {m : Int} (_h1 : 0 ≤ m) (hm : m ≤ L.length) : S.mthLast U m = rd L ((L.length : Int) - m) := by
  have hl := h.length_le
  rw [S.suffix_rd h _h1 hm, S.mthLast, if_pos (by omega)]

theorem S.rd_mem {a : List Int} {i : Int} (h0 : 0 ≤ i) (h1 : i < a.length) : rd a i ∈ a := by
  obtain ⟨j, rfl⟩ : ∃ j : Nat, i = j := ⟨i.toNat, by omega⟩
  rw [rd_get (by omega)]
  exact List.getElem_mem _

theorem S.mthLast_mem {a : List Int} {m : Int} (h1 : 1 ≤ m) (hm : m ≤ a.length) : S.mthLast a m ∈ a := by
  unfold S.mthLast
  rw [if_pos hm]
  exact S.rd_mem (by omega) (by omega)

/-- The first of a rising list is its least one. -/
theorem S.up_head {a : List Int} (h : S.Up a) {x : Int} (hx : x ∈ a) : rd a 0 ≤ x := by
  cases a with
  | nil => simp at hx
  | cons y a =>
    rcases List.mem_cons.1 hx with rfl | hx
    · exact Int.le_refl _
    · exact Int.le_of_lt ((List.pairwise_cons.1 h).1 _ hx)
theorem S.up_rd {a : List Int} (h : S.Up a) {i j : Nat} (hij : i < j) (hj : j < a.length) : rd a i < rd a j := by
  rw [rd_get hj, rd_get (Nat.lt_trans hij hj)]
  exact List.pairwise_iff_getElem.1 h i j (Nat.lt_trans hij hj) hj hij

/-- Just m of a rising list are not below its m-th last one. -/
theorem S.mthLast_count {a : List Int} (h : S.Up a) {m : Int} (h1 : 1 ≤ m) (hm : m ≤ a.length) : ((a.filter fun y => decide (S.mthLast a m ≤ y)).length : Int) = m := by
  obtain ⟨s, hs⟩ := S.up_suffix h (S.mthLast a m)
  generalize hL : (a.filter fun y => decide (S.mthLast a m ≤ y)) = L at hs
  have hx : S.mthLast a m ∈ L := by rw [← hL, List.mem_filter]; exact ⟨S.mthLast_mem h1 hm, by simp⟩
  have hupL : S.Up L := by rw [← hL]; exact S.up_filter h _
  have hlen : a.length = s.length + L.length := by rw [← hs, List.length_append]
  have hpos : 0 < L.length := List.length_pos_iff.2 (fun e => by rw [e] at hx; simp at hx)
  have hhead : rd L 0 = S.mthLast a m := by
    refine Int.le_antisymm (S.up_head hupL hx) ?_
    have := S.rd_mem (a := L) (i := 0) (by omega) (by omega)
    rw [← hL, List.mem_filter, decide_eq_true_eq] at this
    rw [← hL]
    exact this.2
  have e1 : rd a ((s.length + 0 : Nat) : Int) = rd L 0 := by rw [← hs]; exact rd_append_right s L 0
  have e2 : S.mthLast a m = rd a ((a.length : Int) - m) := by unfold S.mthLast; rw [if_pos hm]
  rw [hhead, e2] at e1
  obtain ⟨j, hj⟩ : ∃ j : Nat, (a.length : Int) - m = j := ⟨((a.length : Int) - m).toNat, by omega⟩
  rw [hj] at e1
  have : j = s.length := by
    rcases Nat.lt_trichotomy j s.length with hlt | he | hlt
    · have := S.up_rd h hlt (by omega); rw [Nat.add_zero] at e1; omega
    · exact he
    · have := S.up_rd h hlt (by omega); rw [Nat.add_zero] at e1; omega
  omega

theorem S.filter_sub {U : List Int} (p q : Int → Bool) : ((U.filter q).filter p).Sublist (U.filter p) := by
  rw [List.filter_filter]
  have : (U.filter fun x => p x && q x) = (U.filter p).filter q := by rw [List.filter_filter]; congr 1; funext x; exact Bool.and_comm _ _
  rw [this]
  exact List.filter_sublist

/-- Of fewer places the m-th last one is no later. -/
theorem S.mthLast_mono {U : List Int} (h : S.Up U) (h0 : ∀ x ∈ U, 0 ≤ x) (q : Int → Bool) {m : Int} (h1 : 1 ≤ m) : S.mthLast (U.filter q) m ≤ S.mthLast U m := by
  by_cases hv : m ≤ ((U.filter q).length : Int)
  · have hlen : (U.filter q).length ≤ U.length := List.length_filter_le _ _
    have hcnt := S.mthLast_count (S.up_filter h q) h1 hv
    generalize hf : S.mthLast (U.filter q) m = f at *
    have hsub := (S.filter_sub (U := U) (fun y => decide (f ≤ y)) q).length_le
    have hm' : m ≤ ((U.filter fun y => decide (f ≤ y)).length : Int) := by omega
    rw [S.suffix_mthLast (S.up_suffix h f) (by omega) hm']
    have := S.rd_mem (a := U.filter fun y => decide (f ≤ y)) (i := ((U.filter fun y => decide (f ≤ y)).length : Int) - m) (by omega) (by omega)
    rw [List.mem_filter, decide_eq_true_eq] at this
    exact this.2
  · have e : S.mthLast (U.filter q) m = 0 := by unfold S.mthLast; rw [if_neg hv]
    rw [e]
    by_cases hu : m ≤ (U.length : Int)
    · exact h0 _ (S.mthLast_mem h1 hu)
    · unfold S.mthLast; rw [if_neg hu]; omega

/-- climb: its places are the document's. -/
theorem S.climbAt_is (l : List Int) (m k : Int) (hm : 1 ≤ m) (hk : k < l.length) (h31 : rd l 0 = 31) (hlv : ∀ x : Int, 0 ≤ x → x < l.length → rd l x ≤ 31) (hk1 : 1 ≤ k) : ∀ i : Nat, i ≤ 32 →
    S.climbAt l m k i = S.mthLast (S.upZ l 0 ((l.length : Int) - k) (32 - (i : Int))) m := by
  intro i
  induction i with
  | zero =>
    intro _
    have e : S.upZ l 0 ((l.length : Int) - k) (32 - ((0 : Nat) : Int)) = [] := by
      refine List.eq_nil_iff_forall_not_mem.2 fun x hx => ?_
      obtain ⟨h0, h1, _, _, h2⟩ := S.upZ_mem.1 hx
      have := hlv x h0 h1
      omega
    rw [e]
    unfold S.mthLast
    rw [if_neg (by simp; omega)]
    rfl
  | succ i ih =>
    intro hi
    have ih := ih (by omega)
    generalize hU : S.upZ l 0 ((l.length : Int) - k) (31 - (i : Int)) = U
    have hUup : S.Up U := by rw [← hU]; exact S.upZ_up _ _ _ _
    have hU0 : ∀ x ∈ U, 0 ≤ x := fun x hx => by rw [← hU] at hx; exact (S.upZ_mem.1 hx).1
    have hV : S.upZ l 0 ((l.length : Int) - k) (32 - (i : Int)) = U.filter fun x => decide (32 - (i : Int) ≤ rd l x) := by rw [← hU]; exact S.upZ_level _ _ _ (by omega)
    rw [hV] at ih
    generalize hf : S.climbAt l m k i = f at ih
    have hf0 : 0 ≤ f := by
      rw [ih]
      by_cases hv : m ≤ ((U.filter fun x => decide (32 - (i : Int) ≤ rd l x)).length : Int)
      · exact hU0 _ ((List.mem_filter.1 (S.mthLast_mem hm hv)).1)
      · unfold S.mthLast; rw [if_neg hv]; omega
    have hL : S.upZ l f ((l.length : Int) - k) (31 - (i : Int)) = U.filter fun x => decide (f ≤ x) := by rw [← hU]; exact S.upZ_filter l hf0 _ _
    have hs := S.up_suffix hUup f
    have e0 : S.climbAt l m k (i + 1) = if m < ((U.filter fun x => decide (f ≤ x)).length : Int) then rd (U.filter fun x => decide (f ≤ x)) (((U.filter fun x => decide (f ≤ x)).length : Int) - m) else f := by
      rw [← hL, ← hf]; rfl
    rw [e0, show (32 : Int) - ((i + 1 : Nat) : Int) = 31 - (i : Int) from by omega, hU]
    generalize hLL : (U.filter fun x => decide (f ≤ x)) = L at *
    have hupL : S.Up L := by rw [← hLL]; exact S.up_filter hUup _
    by_cases hc : m < (L.length : Int)
    · rw [if_pos hc, S.suffix_mthLast hs (by omega) (by omega)]
    · rw [if_neg hc]
      have hfU : 1 ≤ L.length → f ∈ L → f = rd L 0 := fun hp hm' => by
        refine Int.le_antisymm ?_ (S.up_head hupL hm')
        have := S.rd_mem (a := L) (i := 0) (by omega) (by omega)
        rw [← hLL, List.mem_filter, decide_eq_true_eq] at this
        rw [← hLL]
        exact this.2
      by_cases hv : m ≤ ((U.filter fun x => decide (32 - (i : Int) ≤ rd l x)).length : Int)
      · have hcnt := S.mthLast_count (S.up_filter hUup _) hm hv
        rw [← ih] at hcnt
        have hsub := (S.filter_sub (U := U) (fun y => decide (f ≤ y)) (fun x => decide (32 - (i : Int) ≤ rd l x))).length_le
        rw [hLL] at hsub
        have hlm : (L.length : Int) = m := by omega
        have hfL : f ∈ L := by
          rw [← hLL, List.mem_filter]
          have := S.mthLast_mem hm hv
          rw [← ih] at this
          exact ⟨(List.mem_filter.1 this).1, by simp⟩
        rw [S.suffix_mthLast hs (by omega) (by omega), hlm, show m - m = 0 from by omega]
        exact hfU (by omega) hfL
      · have hf0' : f = 0 := by rw [ih]; unfold S.mthLast; rw [if_neg hv]
        have hLU : L = U := by rw [← hLL]; exact List.filter_eq_self.2 fun x hx => by have := hU0 x hx; simp; omega
        have h0U : (0 : Int) ∈ U := by rw [← hU, S.upZ_mem]; exact ⟨by omega, by omega, by omega, by omega, by rw [h31]; omega⟩
        by_cases hum : m ≤ (L.length : Int)
        · rw [S.suffix_mthLast hs (by omega) (by omega), show (L.length : Int) - m = 0 from by omega]
          exact hfU (by omega) (by rw [hLU, hf0']; exact h0U)
        · rw [hLU] at hum
          unfold S.mthLast; rw [if_neg hum]; exact hf0'

end Go.Proofs.Ytgjkjndfnjabeaa.X
