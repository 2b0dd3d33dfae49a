/- Texts of this proof, laid together by wip/tools/pack.py: S1, XsuperMay, Xsupermay, TN3, Shelf4. -/
import Derived.Test.YtdklknfgcepcbaaGreatZ32
import Derived.RangeFuncNested
import Derived.Shelf.SlGeneric
import Derived.Shelf.SlIterI.Nil
import Derived.Ground.GgzProg
import Derived.Shelf.SortM.Plain
import Derived.Shelf.SortM.SortNone
import Derived.Ground.SlgmProg
import Derived.Test.YtdklknfgcepcbaaGreatProg
section
namespace Go.Proofs.YtdklknfgcepcbaaGreat.X
open Go.Proofs.YtdklknfgcepcbaaGreatW.PrintWords
theorem rd_get {l : List Int} {i : Nat} (h : i < l.length) : rd l i = l[i] := by
  simp [rd, List.getElem?_eq_getElem h, List.getD_eq_getElem?_getD]
theorem rd_cons_zero (x : Int) (l : List Int) : rd (x :: l) 0 = x := rfl
theorem rd_cons_succ (x : Int) (l : List Int) (i : Nat) : rd (x :: l) ((i : Int) + 1) = rd l i := by
  have : ((i : Int) + 1).toNat = i + 1 := by omega
  simp [rd, this]
abbrev S.Up (a : List Int) : Prop := a.Pairwise (· < ·)
theorem S.upFrom_mem (l : List Int) : ∀ (i fr hi n x : Int), x ∈ S.upFrom l i fr hi n ↔ ∃ j : Nat, x = i + j ∧ j < l.length ∧ fr ≤ x ∧ x < hi ∧ n ≤ rd l j := by
  induction l with
  | nil => intro i fr hi n x; simp [S.upFrom]
  | cons y l ih =>
    intro i fr hi n x
    have hr : x ∈ S.upFrom l (i + 1) fr hi n ↔ ∃ j : Nat, x = i + (j + 1 : Nat) ∧ j + 1 < (y :: l).length ∧ fr ≤ x ∧ x < hi ∧ n ≤ rd (y :: l) ((j + 1 : Nat) : Int) := by
      rw [ih]
      refine exists_congr fun j => ?_
      have e : rd (y :: l) ((j + 1 : Nat) : Int) = rd l j := by rw [← rd_cons_succ y l j]; rfl
      rw [e, List.length_cons]
      constructor
      · rintro ⟨h1, h2, h3⟩; exact ⟨by omega, by omega, h3⟩
      · rintro ⟨h1, h2, h3⟩; exact ⟨by omega, by omega, h3⟩
    have hsplit : (∃ j : Nat, x = i + j ∧ j < (y :: l).length ∧ fr ≤ x ∧ x < hi ∧ n ≤ rd (y :: l) j) ↔ (x = i ∧ fr ≤ x ∧ x < hi ∧ n ≤ y) ∨ ∃ j : Nat, x = i + (j + 1 : Nat) ∧ j + 1 < (y :: l).length ∧ fr ≤ x ∧ x < hi ∧ n ≤ rd (y :: l) ((j + 1 : Nat) : Int) := by
      constructor
      · rintro ⟨j, h1, h2, h3, h4, h5⟩
        cases j with
        | zero => exact .inl ⟨by omega, h3, h4, h5⟩
        | succ j => exact .inr ⟨j, h1, h2, h3, h4, h5⟩
      · rintro (⟨h1, h3, h4, h5⟩ | ⟨j, h⟩)
        · exact ⟨0, by omega, by simp, h3, h4, h5⟩
        · exact ⟨j + 1, h⟩
    rw [hsplit]
    unfold S.upFrom
    by_cases hc : fr ≤ i ∧ i < hi ∧ n ≤ y
    · rw [if_pos hc, List.mem_cons, hr]
      constructor
      · rintro (rfl | h)
        · exact .inl ⟨rfl, hc⟩
        · exact .inr h
      · rintro (⟨h, _⟩ | h)
        · exact .inl h
        · exact .inr h
    · rw [if_neg hc, hr]
      constructor
      · exact .inr
      · rintro (⟨rfl, h⟩ | h)
        · exact absurd h hc
        · exact h
theorem S.upFrom_up (l : List Int) : ∀ (i fr hi n : Int), S.Up (S.upFrom l i fr hi n) := by
  induction l with
  | nil => intro i fr hi n; exact List.Pairwise.nil
  | cons y l ih =>
    intro i fr hi n
    unfold S.upFrom
    split
    · refine List.Pairwise.cons (fun x hx => ?_) (ih _ _ _ _)
      obtain ⟨j, h, _⟩ := (S.upFrom_mem l _ _ _ _ _).1 hx
      omega
    · exact ih _ _ _ _
theorem S.upZ_mem {l : List Int} {fr hi n x : Int} : x ∈ S.upZ l fr hi n ↔ 0 ≤ x ∧ x < l.length ∧ fr ≤ x ∧ x < hi ∧ n ≤ rd l x := by
  unfold S.upZ
  rw [S.upFrom_mem]
  constructor
  · rintro ⟨j, rfl, h2, h3, h4, h5⟩
    have e : (0 : Int) + j = j := by omega
    rw [e] at h3 h4 ⊢
    exact ⟨by omega, by omega, h3, h4, h5⟩
  · rintro ⟨h0, h1, h3, h4, h5⟩
    refine ⟨x.toNat, by omega, by omega, h3, h4, ?_⟩
    rw [show ((x.toNat : Nat) : Int) = x from by omega]
    exact h5
theorem S.upZ_up (l : List Int) (fr hi n : Int) : S.Up (S.upZ l fr hi n) := S.upFrom_up l 0 fr hi n
theorem S.up_ext : ∀ {a b : List Int}, S.Up a → S.Up b → (∀ x, x ∈ a ↔ x ∈ b) → a = b
  | [], [], _, _, _ => rfl
  | [], y :: b, _, _, h => by have := (h y).2 (by simp); simp at this
  | x :: a, [], _, _, h => by have := (h x).1 (by simp); simp at this
  | x :: a, y :: b, ha, hb, h => by
    obtain ⟨ha1, ha2⟩ := List.pairwise_cons.1 ha
    obtain ⟨hb1, hb2⟩ := List.pairwise_cons.1 hb
    have hxy : x = y := by
      rcases List.mem_cons.1 ((h x).1 (by simp)) with e | e
      · exact e
      · rcases List.mem_cons.1 ((h y).2 (by simp)) with e' | e'
        · exact e'.symm
        · have := ha1 _ e'; have := hb1 _ e; omega
    subst hxy
    rw [S.up_ext ha2 hb2 (fun z => ?_)]
    have := h z
    rw [List.mem_cons, List.mem_cons] at this
    constructor
    · intro hz
      rcases this.1 (.inr hz) with e | e
      · have := ha1 _ hz; omega
      · exact e
    · intro hz
      rcases this.2 (.inr hz) with e | e
      · have := hb1 _ hz; omega
      · exact e
theorem S.up_filter {a : List Int} (h : S.Up a) (p : Int → Bool) : S.Up (a.filter p) := List.Pairwise.filter p h
theorem S.upZ_filter (l : List Int) {fr fr' : Int} (h : fr ≤ fr') (hi n : Int) : S.upZ l fr' hi n = (S.upZ l fr hi n).filter fun x => decide (fr' ≤ x) := by
  refine S.up_ext (S.upZ_up _ _ _ _) (S.up_filter (S.upZ_up _ _ _ _) _) fun x => ?_
  rw [List.mem_filter, S.upZ_mem, S.upZ_mem, decide_eq_true_eq]
  constructor
  · rintro ⟨h0, h1, h2, h3⟩; exact ⟨⟨h0, h1, by omega, h3⟩, h2⟩
  · rintro ⟨⟨h0, h1, h2, h3⟩, h4⟩; exact ⟨h0, h1, h4, h3⟩
theorem S.upZ_level (l : List Int) (fr hi : Int) {n n' : Int} (h : n ≤ n') : S.upZ l fr hi n' = (S.upZ l fr hi n).filter fun x => decide (n' ≤ rd l x) := by
  refine S.up_ext (S.upZ_up _ _ _ _) (S.up_filter (S.upZ_up _ _ _ _) _) fun x => ?_
  rw [List.mem_filter, S.upZ_mem, S.upZ_mem, decide_eq_true_eq]
  constructor
  · rintro ⟨h0, h1, h2, h3, h4⟩; exact ⟨⟨h0, h1, h2, h3, by omega⟩, h4⟩
  · rintro ⟨⟨h0, h1, h2, h3, h4⟩, h5⟩; exact ⟨h0, h1, h2, h3, h5⟩
theorem S.up_suffix : ∀ {a : List Int} (_ : S.Up a) (x : Int), (a.filter fun y => decide (x ≤ y)) <:+ a
  | [], _, _ => List.suffix_refl _
  | y :: a, h, x => by
    obtain ⟨h1, h2⟩ := List.pairwise_cons.1 h
    by_cases hy : x ≤ y
    · rw [List.filter_eq_self.2 (fun z hz => ?_)]
      · exact List.suffix_refl _
      · rcases List.mem_cons.1 hz with rfl | hz
        · simpa using hy
        · have := h1 z hz; simp; omega
    · rw [List.filter_cons_of_neg (by simpa using hy)]
      exact (S.up_suffix h2 x).trans (List.suffix_cons y a)
theorem rd_append_right (s t : List Int) (i : Nat) : rd (s ++ t) ((s.length + i : Nat) : Int) = rd t i := by
  simp only [rd, Int.toNat_natCast, List.getD_eq_getElem?_getD]
  rw [List.getElem?_append_right (by omega), Nat.add_sub_cancel_left]
theorem S.suffix_rd {L U : List Int} (h : L <:+ U) {m : Int} (_h1 : 0 ≤ m) (hm : m ≤ L.length) : rd L ((L.length : Int) - m) = rd U ((U.length : Int) - m) := by
  obtain ⟨s, rfl⟩ := h
  obtain ⟨j, hj⟩ : ∃ j : Nat, (L.length : Int) - m = j := ⟨((L.length : Int) - m).toNat, by omega⟩
  rw [hj, show ((s ++ L).length : Int) - m = ((s.length + j : Nat) : Int) from by rw [List.length_append]; omega, rd_append_right]
theorem S.suffix_mthLast {L U : List Int} (h : L <:+ U) {m : Int} (_h1 : 0 ≤ m) (hm : m ≤ L.length) : S.mthLast U m = rd L ((L.length : Int) - m) := by
  have hl := h.length_le
  rw [S.suffix_rd h _h1 hm, S.mthLast, if_pos (by omega)]
theorem S.rd_mem {a : List Int} {i : Int} (h0 : 0 ≤ i) (h1 : i < a.length) : rd a i ∈ a := by
  obtain ⟨j, rfl⟩ : ∃ j : Nat, i = j := ⟨i.toNat, by omega⟩
  rw [rd_get (by omega)]
  exact List.getElem_mem _
theorem S.mthLast_mem {a : List Int} {m : Int} (h1 : 1 ≤ m) (hm : m ≤ a.length) : S.mthLast a m ∈ a := by
  unfold S.mthLast
  rw [if_pos hm]
  exact S.rd_mem (by omega) (by omega)
theorem S.up_head {a : List Int} (h : S.Up a) {x : Int} (hx : x ∈ a) : rd a 0 ≤ x := by
  cases a with
  | nil => simp at hx
  | cons y a =>
    rcases List.mem_cons.1 hx with rfl | hx
    · exact Int.le_refl _
    · exact Int.le_of_lt ((List.pairwise_cons.1 h).1 _ hx)
theorem S.up_rd {a : List Int} (h : S.Up a) {i j : Nat} (hij : i < j) (hj : j < a.length) : rd a i < rd a j := by
  rw [rd_get hj, rd_get (Nat.lt_trans hij hj)]
  exact List.pairwise_iff_getElem.1 h i j (Nat.lt_trans hij hj) hj hij
theorem S.mthLast_count {a : List Int} (h : S.Up a) {m : Int} (h1 : 1 ≤ m) (hm : m ≤ a.length) : ((a.filter fun y => decide (S.mthLast a m ≤ y)).length : Int) = m := by
  obtain ⟨s, hs⟩ := S.up_suffix h (S.mthLast a m)
  generalize hL : (a.filter fun y => decide (S.mthLast a m ≤ y)) = L at hs
  have hx : S.mthLast a m ∈ L := by rw [← hL, List.mem_filter]; exact ⟨S.mthLast_mem h1 hm, by simp⟩
  have hupL : S.Up L := by rw [← hL]; exact S.up_filter h _
  have hlen : a.length = s.length + L.length := by rw [← hs, List.length_append]
  have hpos : 0 < L.length := List.length_pos_iff.2 (fun e => by rw [e] at hx; simp at hx)
  have hhead : rd L 0 = S.mthLast a m := by
    refine Int.le_antisymm (S.up_head hupL hx) ?_
    have := S.rd_mem (a := L) (i := 0) (by omega) (by omega)
    rw [← hL, List.mem_filter, decide_eq_true_eq] at this
    rw [← hL]
    exact this.2
  have e1 : rd a ((s.length + 0 : Nat) : Int) = rd L 0 := by rw [← hs]; exact rd_append_right s L 0
  have e2 : S.mthLast a m = rd a ((a.length : Int) - m) := by unfold S.mthLast; rw [if_pos hm]
  rw [hhead, e2] at e1
  obtain ⟨j, hj⟩ : ∃ j : Nat, (a.length : Int) - m = j := ⟨((a.length : Int) - m).toNat, by omega⟩
  rw [hj] at e1
  have : j = s.length := by
    rcases Nat.lt_trichotomy j s.length with hlt | he | hlt
    · have := S.up_rd h hlt (by omega); rw [Nat.add_zero] at e1; omega
    · exact he
    · have := S.up_rd h hlt (by omega); rw [Nat.add_zero] at e1; omega
  omega
theorem S.filter_sub {U : List Int} (p q : Int → Bool) : ((U.filter q).filter p).Sublist (U.filter p) := by
  rw [List.filter_filter]
  have : (U.filter fun x => p x && q x) = (U.filter p).filter q := by rw [List.filter_filter]; congr 1; funext x; exact Bool.and_comm _ _
  rw [this]
  exact List.filter_sublist
theorem S.mthLast_mono {U : List Int} (h : S.Up U) (h0 : ∀ x ∈ U, 0 ≤ x) (q : Int → Bool) {m : Int} (h1 : 1 ≤ m) : S.mthLast (U.filter q) m ≤ S.mthLast U m := by
  by_cases hv : m ≤ ((U.filter q).length : Int)
  · have hlen : (U.filter q).length ≤ U.length := List.length_filter_le _ _
    have hcnt := S.mthLast_count (S.up_filter h q) h1 hv
    generalize hf : S.mthLast (U.filter q) m = f at *
    have hsub := (S.filter_sub (U := U) (fun y => decide (f ≤ y)) q).length_le
    have hm' : m ≤ ((U.filter fun y => decide (f ≤ y)).length : Int) := by omega
    rw [S.suffix_mthLast (S.up_suffix h f) (by omega) hm']
    have := S.rd_mem (a := U.filter fun y => decide (f ≤ y)) (i := ((U.filter fun y => decide (f ≤ y)).length : Int) - m) (by omega) (by omega)
    rw [List.mem_filter, decide_eq_true_eq] at this
    exact this.2
  · have e : S.mthLast (U.filter q) m = 0 := by unfold S.mthLast; rw [if_neg hv]
    rw [e]
    by_cases hu : m ≤ (U.length : Int)
    · exact h0 _ (S.mthLast_mem h1 hu)
    · unfold S.mthLast; rw [if_neg hu]; omega
theorem S.climbAt_is (l : List Int) (m k : Int) (hm : 1 ≤ m) (hk : k < l.length) (h31 : rd l 0 = 31) (hlv : ∀ x : Int, 0 ≤ x → x < l.length → rd l x ≤ 31) (hk1 : 1 ≤ k) : ∀ i : Nat, i ≤ 32 →
    S.climbAt l m k i = S.mthLast (S.upZ l 0 ((l.length : Int) - k) (32 - (i : Int))) m := by
  intro i
  induction i with
  | zero =>
    intro _
    have e : S.upZ l 0 ((l.length : Int) - k) (32 - ((0 : Nat) : Int)) = [] := by
      refine List.eq_nil_iff_forall_not_mem.2 fun x hx => ?_
      obtain ⟨h0, h1, _, _, h2⟩ := S.upZ_mem.1 hx
      have := hlv x h0 h1
      omega
    rw [e]
    unfold S.mthLast
    rw [if_neg (by simp; omega)]
    rfl
  | succ i ih =>
    intro hi
    have ih := ih (by omega)
    generalize hU : S.upZ l 0 ((l.length : Int) - k) (31 - (i : Int)) = U
    have hUup : S.Up U := by rw [← hU]; exact S.upZ_up _ _ _ _
    have hU0 : ∀ x ∈ U, 0 ≤ x := fun x hx => by rw [← hU] at hx; exact (S.upZ_mem.1 hx).1
    have hV : S.upZ l 0 ((l.length : Int) - k) (32 - (i : Int)) = U.filter fun x => decide (32 - (i : Int) ≤ rd l x) := by rw [← hU]; exact S.upZ_level _ _ _ (by omega)
    rw [hV] at ih
    generalize hf : S.climbAt l m k i = f at ih
    have hf0 : 0 ≤ f := by
      rw [ih]
      by_cases hv : m ≤ ((U.filter fun x => decide (32 - (i : Int) ≤ rd l x)).length : Int)
      · exact hU0 _ ((List.mem_filter.1 (S.mthLast_mem hm hv)).1)
      · unfold S.mthLast; rw [if_neg hv]; omega
    have hL : S.upZ l f ((l.length : Int) - k) (31 - (i : Int)) = U.filter fun x => decide (f ≤ x) := by rw [← hU]; exact S.upZ_filter l hf0 _ _
    have hs := S.up_suffix hUup f
    have e0 : S.climbAt l m k (i + 1) = if m < ((U.filter fun x => decide (f ≤ x)).length : Int) then rd (U.filter fun x => decide (f ≤ x)) (((U.filter fun x => decide (f ≤ x)).length : Int) - m) else f := by
      rw [← hL, ← hf]; rfl
    rw [e0, show (32 : Int) - ((i + 1 : Nat) : Int) = 31 - (i : Int) from by omega, hU]
    generalize hLL : (U.filter fun x => decide (f ≤ x)) = L at *
    have hupL : S.Up L := by rw [← hLL]; exact S.up_filter hUup _
    by_cases hc : m < (L.length : Int)
    · rw [if_pos hc, S.suffix_mthLast hs (by omega) (by omega)]
    · rw [if_neg hc]
      have hfU : 1 ≤ L.length → f ∈ L → f = rd L 0 := fun hp hm' => by
        refine Int.le_antisymm ?_ (S.up_head hupL hm')
        have := S.rd_mem (a := L) (i := 0) (by omega) (by omega)
        rw [← hLL, List.mem_filter, decide_eq_true_eq] at this
        rw [← hLL]
        exact this.2
      by_cases hv : m ≤ ((U.filter fun x => decide (32 - (i : Int) ≤ rd l x)).length : Int)
      · have hcnt := S.mthLast_count (S.up_filter hUup _) hm hv
        rw [← ih] at hcnt
        have hsub := (S.filter_sub (U := U) (fun y => decide (f ≤ y)) (fun x => decide (32 - (i : Int) ≤ rd l x))).length_le
        rw [hLL] at hsub
        have hlm : (L.length : Int) = m := by omega
        have hfL : f ∈ L := by
          rw [← hLL, List.mem_filter]
          have := S.mthLast_mem hm hv
          rw [← ih] at this
          exact ⟨(List.mem_filter.1 this).1, by simp⟩
        rw [S.suffix_mthLast hs (by omega) (by omega), hlm, show m - m = 0 from by omega]
        exact hfU (by omega) hfL
      · have hf0' : f = 0 := by rw [ih]; unfold S.mthLast; rw [if_neg hv]
        have hLU : L = U := by rw [← hLL]; exact List.filter_eq_self.2 fun x hx => by have := hU0 x hx; simp; omega
        have h0U : (0 : Int) ∈ U := by rw [← hU, S.upZ_mem]; exact ⟨by omega, by omega, by omega, by omega, by rw [h31]; omega⟩
        by_cases hum : m ≤ (L.length : Int)
        · rw [S.suffix_mthLast hs (by omega) (by omega), show (L.length : Int) - m = 0 from by omega]
          exact hfU (by omega) (by rw [hLU, hf0']; exact h0U)
        · rw [hLU] at hum
          unfold S.mthLast; rw [if_neg hum]; exact hf0'
end Go.Proofs.YtdklknfgcepcbaaGreat.X
end
section
namespace Go.Proofs.YtdklknfgcepcbaaGreat.X
open Go.RowKit Go.Proofs.YtdklknfgcepcbaaGreatW.PrintWords Go.Proofs.YtdklknfgcepcbaaGreatW.PrintLast Go.Proofs.YtdklknfgcepcbaaGreatW.PrintMore
set_option linter.unusedVariables false
set_option linter.unusedSimpArgs false
def super_May.f (l0 : List Int) : Option (Bool) := some (S.mayB l0)
theorem super_May.calls (A0 : Option Addr) (c0 : Nat) (l0 : List Int) (r : Bool) (w : World) (hr0 : Kd.C (Kd.int .i64) w A0 l0.length l0) (hc0 : l0.length ≤ c0) (h : super_May.f l0 = some r) :
    Calls Tryz.prog 114 #[.slice A0 l0.length c0] w fun e w' => e = .returned (.bool r) ∧ Drawn0 w w' := by
  obtain rfl := Option.some.inj h; exact E.may_calls A0 c0 l0 w hr0 hc0
end Go.Proofs.YtdklknfgcepcbaaGreat.X
end
section
namespace Go.Proofs.YtdklknfgcepcbaaGreat.X
open Go.RowKit Go.Proofs.YtdklknfgcepcbaaGreatW.PrintWords Go.Proofs.YtdklknfgcepcbaaGreatW.PrintLast Go.Proofs.YtdklknfgcepcbaaGreatW.PrintMore
set_option linter.unusedVariables false
set_option linter.unusedSimpArgs false
def super_may.f (l0 : List Int) (a1 : Int) (a2 : Int) : Option (Bool) := (super_May.f l0).bind fun t130 => (if t130 = true then (if a1 ≥ 1 then (if a2 ≥ 1 then (some (decide ((l0.length : Int) > a2))) else (some false)) else (some false)) else (some false))
set_option maxHeartbeats 8000000 in
set_option maxRecDepth 100000 in
theorem super_may.calls (A0 : Option Addr) (c0 : Nat) (l0 : List Int) (a1 : Int) (a2 : Int) (r : Bool) (w : World) (hr0 : Kd.C (Kd.int .i64) w A0 l0.length l0) (hc0 : l0.length ≤ c0) (h : super_may.f l0 a1 a2 = some r) :
    Calls Tryz.prog 62 #[.slice A0 l0.length c0, .int .i64 a1, .int .i64 a2] w fun e w' => e = .returned (.bool r) ∧ Drawn0 w w' := by
  have HR0 := Aside0.mk hr0
  have HC0 := Aside0.mk hc0
  clear hr0 hc0
  have H : ((super_May.f l0).bind fun t130 => (if t130 = true then (if a1 ≥ 1 then (if a2 ≥ 1 then (some (decide ((l0.length : Int) > a2))) else (some false)) else (some false)) else (some false))) = some r := h
  clear h
  replace H := Option.bind_eq_some_iff.mp H
  obtain ⟨t130, A40, H⟩ := H
  replace H : (if t130 = true then (if a1 ≥ 1 then (if a2 ≥ 1 then (some (decide ((l0.length : Int) > a2))) else (some false)) else (some false)) else (some false)) = some r := H
  have A4 := Aside0.mk A40
  clear A40
  by_cases c5 : t130 = true
  · subst c5
    have H1 : (if a1 ≥ 1 then (if a2 ≥ 1 then (some (decide ((l0.length : Int) > a2))) else (some false)) else (some false)) = some r := by rw [if_pos rfl] at H; exact H
    clear H
    have H := H1
    clear H1
    by_cases c6 : a1 ≥ 1
    · rw [if_pos c6] at H
      have c6b0 : decide (1 ≤ a1) = true := decide_eq_true c6
      clear c6
      by_cases c7 : a2 ≥ 1
      · rw [if_pos c7] at H
        have c7b0 : decide (1 ≤ a2) = true := decide_eq_true c7
        clear c7
        obtain rfl := Option.some.inj H
        go_enter Tryz.func62, Tryz.ntmps62
        go_wp2_with (first | ((with_reducible refine gate_callee (f := 114) rfl ?_); refine goesL_ (some 8) rfl rfl Tryz.func114 (by kernel_rfl) rfl #[.slice A0 l0.length c0] rfl (by (try simp only [List.map_toArray, List.map_cons, List.map_nil]); first | done | rfl | (simp only [List.length_drop, List.length_take]; rfl)) ?_; (with_reducible refine (super_May.calls _ _ l0 true _ ?side1 ?side2 A4.out).mono ?_); (case side1 => repeat (first | exact HR0.out | (with_reducible refine Kd.C_alloc ?_ _) | (with_reducible refine Kd.C_drewN ?_ _) | (with_reducible refine Kd.C_drew ?_))); (case side2 => exact HC0.out); rintro e w' ⟨rfl, ⟨nd, rfl⟩⟩; refine ⟨_, rfl, ?_⟩))
        go_ret
        exact ⟨by first | rfl | (simp; done) | (simp [*]; done), by repeat (first | exact Drawn0.refl _ | apply Drawn0.step)⟩
      · rw [if_neg c7] at H
        have c7b0 : decide (1 ≤ a2) = false := decide_eq_false c7
        clear c7
        obtain rfl := Option.some.inj H
        go_enter Tryz.func62, Tryz.ntmps62
        go_wp2_with (first | ((with_reducible refine gate_callee (f := 114) rfl ?_); refine goesL_ (some 8) rfl rfl Tryz.func114 (by kernel_rfl) rfl #[.slice A0 l0.length c0] rfl (by (try simp only [List.map_toArray, List.map_cons, List.map_nil]); first | done | rfl | (simp only [List.length_drop, List.length_take]; rfl)) ?_; (with_reducible refine (super_May.calls _ _ l0 true _ ?side1 ?side2 A4.out).mono ?_); (case side1 => repeat (first | exact HR0.out | (with_reducible refine Kd.C_alloc ?_ _) | (with_reducible refine Kd.C_drewN ?_ _) | (with_reducible refine Kd.C_drew ?_))); (case side2 => exact HC0.out); rintro e w' ⟨rfl, ⟨nd, rfl⟩⟩; refine ⟨_, rfl, ?_⟩))
        go_ret
        exact ⟨by first | rfl | (simp; done) | (simp [*]; done), by repeat (first | exact Drawn0.refl _ | apply Drawn0.step)⟩
    · rw [if_neg c6] at H
      have c6b0 : decide (1 ≤ a1) = false := decide_eq_false c6
      clear c6
      obtain rfl := Option.some.inj H
      go_enter Tryz.func62, Tryz.ntmps62
      go_wp2_with (first | ((with_reducible refine gate_callee (f := 114) rfl ?_); refine goesL_ (some 8) rfl rfl Tryz.func114 (by kernel_rfl) rfl #[.slice A0 l0.length c0] rfl (by (try simp only [List.map_toArray, List.map_cons, List.map_nil]); first | done | rfl | (simp only [List.length_drop, List.length_take]; rfl)) ?_; (with_reducible refine (super_May.calls _ _ l0 true _ ?side1 ?side2 A4.out).mono ?_); (case side1 => repeat (first | exact HR0.out | (with_reducible refine Kd.C_alloc ?_ _) | (with_reducible refine Kd.C_drewN ?_ _) | (with_reducible refine Kd.C_drew ?_))); (case side2 => exact HC0.out); rintro e w' ⟨rfl, ⟨nd, rfl⟩⟩; refine ⟨_, rfl, ?_⟩))
      go_ret
      exact ⟨by first | rfl | (simp; done) | (simp [*]; done), by repeat (first | exact Drawn0.refl _ | apply Drawn0.step)⟩
  · replace c5 := Bool.eq_false_iff.mpr c5
    subst c5
    have H1 : (some false) = some r := by rw [if_neg (show ¬ (false = true) by decide)] at H; exact H
    clear H
    have H := H1
    clear H1
    obtain rfl := Option.some.inj H
    go_enter Tryz.func62, Tryz.ntmps62
    go_wp2_with (first | ((with_reducible refine gate_callee (f := 114) rfl ?_); refine goesL_ (some 8) rfl rfl Tryz.func114 (by kernel_rfl) rfl #[.slice A0 l0.length c0] rfl (by (try simp only [List.map_toArray, List.map_cons, List.map_nil]); first | done | rfl | (simp only [List.length_drop, List.length_take]; rfl)) ?_; (with_reducible refine (super_May.calls _ _ l0 false _ ?side1 ?side2 A4.out).mono ?_); (case side1 => repeat (first | exact HR0.out | (with_reducible refine Kd.C_alloc ?_ _) | (with_reducible refine Kd.C_drewN ?_ _) | (with_reducible refine Kd.C_drew ?_))); (case side2 => exact HC0.out); rintro e w' ⟨rfl, ⟨nd, rfl⟩⟩; refine ⟨_, rfl, ?_⟩))
    go_ret
    exact ⟨by first | rfl | (simp; done) | (simp [*]; done), by repeat (first | exact Drawn0.refl _ | apply Drawn0.step)⟩
end Go.Proofs.YtdklknfgcepcbaaGreat.X
end
section
namespace Go.Proofs.YtdklknfgcepcbaaGreat.X
open Go.RowKit Go.Shelf Go.Proofs.YtdklknfgcepcbaaGreatW.PrintWords Go.Proofs.YtdklknfgcepcbaaGreatW.PrintLast Go.Proofs.YtdklknfgcepcbaaGreatW.PrintMore
theorem E.may_f (l : List Int) (m k : Int) : super_may.f l m k = some (S.okB l m k) := by
  unfold super_may.f super_May.f S.okB
  simp only [Option.bind_some]
  cases S.mayB l
  · simp
  · by_cases h1 : 1 ≤ m
    · by_cases h2 : 1 ≤ k
      · simp [h1, h2]
      · simp [h1, h2]
    · simp [h1]
theorem S.okB_parts {l : List Int} {m k : Int} (h : S.okB l m k = true) : S.mayB l = true ∧ 1 ≤ m ∧ 1 ≤ k ∧ k < (l.length : Int) := by
  unfold S.okB at h
  simpa using h
theorem S.mayB_parts {l : List Int} (h : S.mayB l = true) : 0 < l.length ∧ l.length ≤ 200 ∧ rd l 0 = 31 ∧ ∀ x : Int, 0 ≤ x → x < l.length → 0 ≤ rd l x ∧ rd l x ≤ 31 := by
  unfold S.mayB at h
  simp only [Bool.and_eq_true, decide_eq_true_eq, Bool.not_eq_true', List.any_eq_false] at h
  obtain ⟨h1, h2, h3, h4⟩ := h
  refine ⟨h1, h2, h3, fun x hx0 hx1 => ?_⟩
  have := h4 _ (S.rd_mem hx0 hx1)
  unfold S.oddB at this
  simp at this
  omega
theorem S.climb_from {l : List Int} {m k : Int} (h : S.okB l m k = true) (n : Nat) (hn : n ≤ 31) : S.climbAt l m k (31 - n) = S.mthLast (S.upZ l 0 ((l.length : Int) - k) ((n : Int) + 1)) m := by
  obtain ⟨h0, h1, h2, h3⟩ := S.okB_parts h
  obtain ⟨_, _, h6, h7⟩ := S.mayB_parts h0
  rw [S.climbAt_is l m k h1 h3 h6 (fun x a b => (h7 x a b).2) h2 (31 - n) (by omega)]
  congr 2
  omega
theorem E.boxKept {W W' : World} {B : Nat} {t : TypeId} {v : Value} (h : Boxed W B t v) (hb : Below W.heap.size W W') : Boxed W' B t v := (hb.block B h.lt).trans h
end Go.Proofs.YtdklknfgcepcbaaGreat.X
end
section
namespace Go.Proofs
open Go.Shelf
def Tryz.keysA_ren : Go.Shelf.Ren := ⟨fun | 7 => 66 | 10 => 117 | n => n, fun | 23 => 133 | 26 => 3 | 3 => 109 | 28 => 138 | 0 => 0 | 27 => 137 | 33 => 145 | 4 => 4 | n => n, fun | n => n⟩
theorem Tryz.keysA : Go.Proofs.SlLaysZI.n7 Tryz.prog Tryz.keysA_ren := {
  mixed := by kernel_rfl
  f7 := ⟨Tryz.f66.name, by decide, Tryz.func66.trans (congrArg some (by kernel_rfl))⟩
  f10 := ⟨Tryz.f117.name, by decide, Tryz.func117.trans (congrArg some (by kernel_rfl))⟩
  t0 := Tryz.underlying0
  a0 := Tryz.isAgg0
  z0 := Tryz.sizeOf0
  v0 := Tryz.zeroValue0
  t4 := Tryz.underlying4
  a4 := Tryz.isAgg4
  z4 := Tryz.sizeOf4
  v4 := Tryz.zeroValue4
  t23 := Tryz.underlying133
  a23 := Tryz.isAgg133
  z23 := Tryz.sizeOf133
  v23 := Tryz.zeroValue133
  t26 := Tryz.underlying3
  a26 := Tryz.isAgg3
  z26 := Tryz.sizeOf3
  v26 := Tryz.zeroValue3
  t27 := Tryz.underlying137
  a27 := Tryz.isAgg137
  z27 := Tryz.sizeOf137
  v27 := Tryz.zeroValue137
  t28 := Tryz.underlying138
  a28 := Tryz.isAgg138
  z28 := Tryz.sizeOf138
  v28 := Tryz.zeroValue138
  t33 := Tryz.underlying145
  a33 := Tryz.isAgg145
  z33 := Tryz.sizeOf145
  v33 := Tryz.zeroValue145 }
def Tryz.sortedA_ren : Go.Shelf.Ren := ⟨fun | 6 => 65 | 8 => 115 | 9 => 116 | 11 => 147 | 13 => 149 | 12 => 148 | 23 => 177 | 24 => 178 | 14 => 168 | 15 => 169 | 16 => 170 | 17 => 171 | 18 => 172 | 19 => 173 | 20 => 174 | 21 => 175 | 22 => 176 | 25 => 197 | 26 => 198 | 27 => 199 | 28 => 200 | 29 => 201 | 30 => 202 | 31 => 214 | n => n, fun | 26 => 3 | 28 => 138 | 24 => 31 | 0 => 0 | 3 => 3 | 37 => 140 | 48 => 48 | 50 => 45 | 4 => 4 | 40 => 260 | 39 => 259 | 45 => 264 | 5 => 5 | 9 => 9 | 51 => 286 | 55 => 290 | 57 => 303 | 58 => 304 | 33 => 145 | n => n, fun | n => n⟩
theorem Tryz.sortedA : Go.Proofs.SlLaysZI.n6 Tryz.prog Tryz.sortedA_ren := {
  mixed := by kernel_rfl
  f6 := ⟨Tryz.f65.name, by decide, Tryz.func65.trans (congrArg some (by kernel_rfl))⟩
  f8 := ⟨Tryz.f115.name, by decide, Tryz.func115.trans (congrArg some (by kernel_rfl))⟩
  f11 := ⟨Tryz.f147.name, by decide, Tryz.func147.trans (congrArg some (by kernel_rfl))⟩
  t0 := Tryz.underlying0
  a0 := Tryz.isAgg0
  z0 := Tryz.sizeOf0
  v0 := Tryz.zeroValue0
  t24 := Tryz.underlying31
  a24 := Tryz.isAgg31
  z24 := Tryz.sizeOf31
  v24 := Tryz.zeroValue31
  t26 := Tryz.underlying3
  a26 := Tryz.isAgg3
  z26 := Tryz.sizeOf3
  v26 := Tryz.zeroValue3
  t28 := Tryz.underlying138
  a28 := Tryz.isAgg138
  z28 := Tryz.sizeOf138
  v28 := Tryz.zeroValue138
  i26 := by kernel_rfl }
def Tryz.sortA_ren : Go.Shelf.Ren := ⟨fun | 5 => 116 | 8 => 149 | 7 => 148 | 19 => 177 | 20 => 178 | 10 => 168 | 11 => 169 | 12 => 170 | 13 => 171 | 14 => 172 | 15 => 173 | 16 => 174 | 17 => 175 | 18 => 176 | 30 => 197 | 31 => 198 | 32 => 199 | 33 => 200 | 34 => 201 | 35 => 202 | 40 => 214 | n => n, fun | 23 => 31 | 25 => 3 | 3 => 3 | 32 => 140 | 22 => 31 | 0 => 0 | 44 => 48 | 46 => 45 | 4 => 4 | 36 => 260 | 35 => 259 | 41 => 264 | 5 => 5 | 9 => 9 | 53 => 286 | 57 => 290 | 63 => 303 | 64 => 304 | n => n, fun | n => n⟩
theorem Tryz.sortA : Go.Proofs.SlLaysM.n5 Tryz.prog Tryz.sortA_ren := {
  mixed := by kernel_rfl
  f5 := ⟨Tryz.f116.name, by decide, Tryz.func116.trans (congrArg some (by kernel_rfl))⟩
  f7 := ⟨Tryz.f148.name, by decide, Tryz.func148.trans (congrArg some (by kernel_rfl))⟩
  f8 := Tryz.func149.trans (congrArg some (by kernel_rfl))
  f10 := ⟨Tryz.f168.name, by decide, Tryz.func168.trans (congrArg some (by kernel_rfl))⟩
  f11 := ⟨Tryz.f169.name, by decide, Tryz.func169.trans (congrArg some (by kernel_rfl))⟩
  f12 := ⟨Tryz.f170.name, by decide, Tryz.func170.trans (congrArg some (by kernel_rfl))⟩
  f13 := ⟨Tryz.f171.name, by decide, Tryz.func171.trans (congrArg some (by kernel_rfl))⟩
  f14 := ⟨Tryz.f172.name, by decide, Tryz.func172.trans (congrArg some (by kernel_rfl))⟩
  f15 := ⟨Tryz.f173.name, by decide, Tryz.func173.trans (congrArg some (by kernel_rfl))⟩
  f16 := ⟨Tryz.f174.name, by decide, Tryz.func174.trans (congrArg some (by kernel_rfl))⟩
  f17 := ⟨Tryz.f175.name, by decide, Tryz.func175.trans (congrArg some (by kernel_rfl))⟩
  f18 := ⟨Tryz.f176.name, by decide, Tryz.func176.trans (congrArg some (by kernel_rfl))⟩
  f19 := Tryz.func177.trans (congrArg some (by kernel_rfl))
  f20 := Tryz.func178.trans (congrArg some (by kernel_rfl))
  f30 := ⟨Tryz.f197.name, by decide, Tryz.func197.trans (congrArg some (by kernel_rfl))⟩
  f31 := Tryz.func198.trans (congrArg some (by kernel_rfl))
  f32 := Tryz.func199.trans (congrArg some (by kernel_rfl))
  f33 := ⟨Tryz.f200.name, by decide, Tryz.func200.trans (congrArg some (by kernel_rfl))⟩
  f34 := ⟨Tryz.f201.name, by decide, Tryz.func201.trans (congrArg some (by kernel_rfl))⟩
  f35 := ⟨Tryz.f202.name, by decide, Tryz.func202.trans (congrArg some (by kernel_rfl))⟩
  f40 := ⟨Tryz.f214.name, by decide, Tryz.func214.trans (congrArg some (by kernel_rfl))⟩
  t0 := Tryz.underlying0
  a0 := Tryz.isAgg0
  z0 := Tryz.sizeOf0
  v0 := Tryz.zeroValue0
  t3 := Tryz.underlying3
  a3 := Tryz.isAgg3
  z3 := Tryz.sizeOf3
  v3 := Tryz.zeroValue3
  t4 := Tryz.underlying4
  a4 := Tryz.isAgg4
  z4 := Tryz.sizeOf4
  v4 := Tryz.zeroValue4
  t5 := Tryz.underlying5
  a5 := Tryz.isAgg5
  z5 := Tryz.sizeOf5
  v5 := Tryz.zeroValue5
  t9 := Tryz.underlying9
  a9 := Tryz.isAgg9
  z9 := Tryz.sizeOf9
  v9 := Tryz.zeroValue9
  t22 := Tryz.underlying31
  a22 := Tryz.isAgg31
  z22 := Tryz.sizeOf31
  v22 := Tryz.zeroValue31
  t23 := Tryz.underlying31
  a23 := Tryz.isAgg31
  z23 := Tryz.sizeOf31
  v23 := Tryz.zeroValue31
  t25 := Tryz.underlying3
  a25 := Tryz.isAgg3
  z25 := Tryz.sizeOf3
  v25 := Tryz.zeroValue3
  t32 := Tryz.underlying140
  a32 := Tryz.isAgg140
  z32 := Tryz.sizeOf140
  v32 := Tryz.zeroValue140
  t35 := Tryz.underlying259
  a35 := Tryz.isAgg259
  z35 := Tryz.sizeOf259
  v35 := Tryz.zeroValue259
  t36 := Tryz.underlying260
  a36 := Tryz.isAgg260
  z36 := Tryz.sizeOf260
  v36 := Tryz.zeroValue260
  t41 := Tryz.underlying264
  a41 := Tryz.isAgg264
  z41 := Tryz.sizeOf264
  v41 := Tryz.zeroValue264
  t44 := Tryz.underlying48
  a44 := Tryz.isAgg48
  z44 := Tryz.sizeOf48
  v44 := Tryz.zeroValue48
  t46 := Tryz.underlying45
  a46 := Tryz.isAgg45
  z46 := Tryz.sizeOf45
  v46 := Tryz.zeroValue45
  t53 := Tryz.underlying286
  a53 := Tryz.isAgg286
  z53 := Tryz.sizeOf286
  v53 := Tryz.zeroValue286
  t57 := Tryz.underlying290
  a57 := Tryz.isAgg290
  z57 := Tryz.sizeOf290
  v57 := Tryz.zeroValue290
  t63 := Tryz.underlying303
  a63 := Tryz.isAgg303
  z63 := Tryz.sizeOf303
  v63 := Tryz.zeroValue303
  t64 := Tryz.underlying304
  a64 := Tryz.isAgg304
  z64 := Tryz.sizeOf304
  v64 := Tryz.zeroValue304 }
end Go.Proofs
end
