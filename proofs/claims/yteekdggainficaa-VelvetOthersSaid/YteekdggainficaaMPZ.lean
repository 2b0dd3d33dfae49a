/- What is taken of blocks: plain facts. -/
import Derived.Test.YteekdggainficaaMPY
namespace Go.Proofs.Yteekdggainficaa.X
open Go.RowKit Go.Proofs.YteekdggainficaaW.PrintWords
theorem V.atTo_mem {l : List S36} {i : Nat} {x : Int} : x ∈ V.atTo l i ↔ ∃ j : Nat, x = j ∧ j < i ∧ (V.smoothZ l).getD j false = true := by
  unfold V.atTo
  rw [List.mem_map]
  constructor
  · rintro ⟨j, hj, rfl⟩
    rw [List.mem_filter, List.mem_range] at hj
    exact ⟨j, rfl, hj.1, hj.2⟩
  · rintro ⟨j, rfl, h1, h2⟩
    exact ⟨j, by rw [List.mem_filter, List.mem_range]; exact ⟨h1, h2⟩, rfl⟩
theorem V.atTo_up (l : List S36) (i : Nat) : S.Up (V.atTo l i) := by
  unfold V.atTo
  exact List.Pairwise.map _ (fun a b h => Int.ofNat_lt.2 h) (List.Pairwise.filter _ List.pairwise_lt_range)
/-- A rising list's first number, if it has a least one. -/
theorem S.up_first {a : List Int} (h : S.Up a) {x : Int} (hx : x ∈ a) (hl : ∀ y ∈ a, x ≤ y) : rd a 0 = x := by
  cases a with
  | nil => simp at hx
  | cons y a =>
    show y = x
    have h1 := hl y (by simp)
    rcases List.mem_cons.1 hx with e | e
    · exact e.symm
    · have := (List.pairwise_cons.1 h).1 x e
      omega
/-- Blocks that may be: their parts. -/
theorem V.may_parts {l : List S36} (h : V.mayV l = true) : 0 < l.length ∧ l.length ≤ 200 ∧ (l.getD 0 z36).f1 = 31 ∧ ∀ j : Nat, j < l.length → 0 ≤ (l.getD j z36).f1 ∧ (l.getD j z36).f1 ≤ 31 := by
  have h' := S.mayB_parts h
  rw [V.lev_len] at h'
  refine ⟨h'.1, h'.2.1, ?_, fun j hj => ?_⟩
  · have := V.lev_rd (l := l) (j := 0) h'.1
    rw [← this]
    exact h'.2.2.1
  · rw [← V.lev_rd hj]
    exact h'.2.2.2 j (by omega) (by omega)
theorem V.smz_zero {l : List S36} (h : V.mayV l = true) : (V.smoothZ l).getD 0 false = true := by
  rw [V.smz_at h (V.may_parts h).1]
  rfl

/-- The levels of what is smooth ahead, and k of level 0. -/
def V.ahead (l : List S36) (k : Nat) : List Int := V.lev (V.smo l (l.length - k)) ++ List.replicate k 0
theorem V.ahead_len (l : List S36) (k : Nat) : (V.ahead l k).length = (V.atTo l (l.length - k)).length + k := by
  unfold V.ahead
  rw [List.length_append, List.length_replicate, V.lev_len]
  unfold V.smo
  rw [List.length_map]
theorem V.ahead_rd (l : List S36) (k : Nat) {j : Nat} (h : j < (V.atTo l (l.length - k)).length) : rd (V.ahead l k) j = (l.getD (rd (V.atTo l (l.length - k)) j).toNat z36).f1 := by
  have hl := V.ahead_len l k
  rw [rd_get (by omega), rd_get h]
  unfold V.ahead
  rw [List.getElem_append_left (by rw [V.lev_len]; unfold V.smo; rw [List.length_map]; exact h)]
  unfold V.lev V.smo
  rw [List.getElem_map, List.getElem_map]
theorem V.ahead_rest (l : List S36) (k : Nat) {j : Nat} (h : (V.atTo l (l.length - k)).length ≤ j) (h2 : j < (V.ahead l k).length) : rd (V.ahead l k) j = 0 := by
  unfold V.ahead at h2 ⊢
  rw [rd_get h2, List.getElem_append_right (by rw [V.lev_len]; unfold V.smo; rw [List.length_map]; exact h), List.getElem_replicate]
theorem V.at_first {l : List S36} (hm : V.mayV l = true) {k : Nat} (h2 : k < l.length) : 0 < (V.atTo l (l.length - k)).length ∧ rd (V.atTo l (l.length - k)) 0 = 0 := by
  have h0 : (0 : Int) ∈ V.atTo l (l.length - k) := V.atTo_mem.2 ⟨0, rfl, by omega, V.smz_zero hm⟩
  exact ⟨List.length_pos_of_mem h0, S.up_first (V.atTo_up _ _) h0 fun y hy => by obtain ⟨j, rfl, _⟩ := V.atTo_mem.1 hy; omega⟩
theorem V.ahead_ok {l : List S36} (hm : V.mayV l = true) {m : Int} {k : Nat} (h1 : 1 ≤ m) (hk : 1 ≤ k) (h2 : k < l.length) : S.okB (V.ahead l k) m k = true := by
  obtain ⟨p0, p1, p2, p3⟩ := V.may_parts hm
  obtain ⟨q0, q1⟩ := V.at_first hm h2
  have hl := V.ahead_len l k
  have hal := V.atTo_len l (l.length - k)
  refine S.okB_iff.2 ⟨S.mayB_of (by omega) (by omega) ?_ fun x a b => ?_, h1, by omega, by omega⟩
  · have := V.ahead_rd l k (j := 0) q0
    rw [show ((0 : Nat) : Int) = 0 from rfl, q1] at this
    rw [this]
    exact p2
  · obtain ⟨j, rfl⟩ : ∃ j : Nat, x = j := ⟨x.toNat, by omega⟩
    by_cases c : j < (V.atTo l (l.length - k)).length
    · rw [V.ahead_rd l k c]
      have hmem := S.rd_mem (a := V.atTo l (l.length - k)) (i := (j : Int)) (by omega) (by omega)
      obtain ⟨i, e, hi, _⟩ := V.atTo_mem.1 hmem
      rw [e, Int.toNat_natCast]
      exact p3 i (by omega)
    · rw [V.ahead_rest l k (by omega) (by omega)]
      omega

/-- Is a block of a level at least, and smooth? -/
def V.isU (l : List S36) (n : Int) (j : Nat) : Bool := (V.smoothZ l).getD j false && decide (n ≤ (l.getD j z36).f1)
/-- How many such there are from i on, ahead of hi. -/
def V.cnt (l : List S36) (n : Int) (hi i : Nat) : Nat := ((List.range' i (hi - i)).filter (V.isU l n)).length
theorem V.cnt_hi (l : List S36) (n : Int) (hi : Nat) : V.cnt l n hi hi = 0 := by unfold V.cnt; rw [Nat.sub_self]; rfl
theorem V.cnt_step (l : List S36) (n : Int) {hi i : Nat} (h : i < hi) : V.cnt l n hi i = V.cnt l n hi (i + 1) + if V.isU l n i = true then 1 else 0 := by
  unfold V.cnt
  rw [show hi - i = (hi - (i + 1)) + 1 from by omega, List.range'_succ]
  by_cases c : V.isU l n i = true
  · rw [List.filter_cons_of_pos c, if_pos c, List.length_cons]
  · rw [List.filter_cons_of_neg c, if_neg c]; rfl
theorem V.cnt_le (l : List S36) (n : Int) (hi i : Nat) : V.cnt l n hi i ≤ hi := by
  unfold V.cnt
  have := List.length_filter_le (V.isU l n) (List.range' i (hi - i))
  rw [List.length_range'] at this
  omega

/-- What is taken of blocks. -/
def V.pk (l : List S36) (m : Int) (k : Nat) : List Int := (S.takenL (V.ahead l k) m k).map fun j => rd (V.atTo l (l.length - k)) j
theorem V.pk_is {l : List S36} (hm : V.mayV l = true) {m : Int} {k : Nat} (h1 : 1 ≤ m) (hk : 1 ≤ k) (h2 : k < l.length) : V.prefZ l m k = (V.pk l m k, true) := by
  rw [V.prefZ_ok hm h1 hk h2]
  have := S.prefZ_ok (V.ahead_ok hm h1 hk h2)
  unfold V.ahead at this
  rw [this]
  rfl
theorem V.pk_at {l : List S36} (m : Int) (k : Nat) {j : Int} (h : j ∈ S.takenL (V.ahead l k) m k) : 0 ≤ j ∧ j < (V.atTo l (l.length - k)).length := by
  have := S.takenL_mem.1 h
  rw [V.ahead_len] at this
  omega
theorem V.pk_mem {l : List S36} (m : Int) (k : Nat) {x : Int} (h : x ∈ V.pk l m k) : ∃ i : Nat, x = i ∧ i < l.length - k ∧ (V.smoothZ l).getD i false = true := by
  unfold V.pk at h
  obtain ⟨j, hj, rfl⟩ := List.mem_map.1 h
  have hb := V.pk_at m k hj
  exact V.atTo_mem.1 (S.rd_mem hb.1 hb.2)
theorem V.pk_up (l : List S36) (m : Int) (k : Nat) : S.Up (V.pk l m k) := by
  unfold V.pk
  refine List.pairwise_map.2 ?_
  refine List.Pairwise.imp_of_mem ?_ (S.takenL_up (V.ahead l k) m k)
  intro a b ha hb hab
  have h1 := V.pk_at m k ha
  have h2 := V.pk_at m k hb
  obtain ⟨i, rfl⟩ : ∃ i : Nat, a = i := ⟨a.toNat, by omega⟩
  obtain ⟨j, rfl⟩ : ∃ j : Nat, b = j := ⟨b.toNat, by omega⟩
  exact S.up_rd (V.atTo_up _ _) (by omega) (by omega)
theorem V.pk_zero {l : List S36} (hm : V.mayV l = true) {m : Int} {k : Nat} (h1 : 1 ≤ m) (hk : 1 ≤ k) (h2 : k < l.length) : 0 < (V.pk l m k).length ∧ rd (V.pk l m k) 0 = 0 := by
  have h0 : (0 : Int) ∈ V.pk l m k := by
    unfold V.pk
    exact List.mem_map.2 ⟨0, S.taken_zero (V.ahead_ok hm h1 hk h2), (V.at_first hm h2).2⟩
  exact ⟨List.length_pos_of_mem h0, S.up_first (V.pk_up l m k) h0 fun y hy => by obtain ⟨j, rfl, _⟩ := V.pk_mem m k hy; omega⟩
/-- The last m of a level at least are taken. -/
theorem V.pk_last {l : List S36} (hm : V.mayV l = true) {m : Int} {k : Nat} (h1 : 1 ≤ m) (hk : 1 ≤ k) (h2 : k < l.length) (n : Int) {i : Nat} (hi : i < l.length - k) (hu : V.isU l n i = true) (hc : (V.cnt l n (l.length - k) (i + 1) : Int) < m) : (i : Int) ∈ V.pk l m k := by
  have hok := V.ahead_ok hm h1 hk h2
  have hal := V.ahead_len l k
  unfold V.isU at hu
  rw [Bool.and_eq_true, decide_eq_true_eq] at hu
  have hmem : (i : Int) ∈ V.atTo l (l.length - k) := V.atTo_mem.2 ⟨i, rfl, hi, hu.1⟩
  obtain ⟨j, hj, hji⟩ := List.getElem_of_mem hmem
  have hjr : rd (V.atTo l (l.length - k)) j = i := by rw [rd_get hj, hji]
  have hlv : rd (V.ahead l k) j = (l.getD i z36).f1 := by rw [V.ahead_rd l k hj, hjr, Int.toNat_natCast]
  have hpl := (V.may_parts hm).2.2.2 i (by omega)
  refine List.mem_map.2 ⟨j, S.takenL_mem.2 ⟨by omega, by omega, by omega, by rw [hlv]; exact hpl.1, ?_⟩, hjr⟩
  rw [hlv, S.fromZ_is hok hpl.2]
  by_cases hmu : m ≤ ((S.upZ (V.ahead l k) 0 (((V.ahead l k).length : Int) - k) ((l.getD i z36).f1 + 1)).length : Int)
  · by_cases hx : S.mthLast (S.upZ (V.ahead l k) 0 (((V.ahead l k).length : Int) - k) ((l.getD i z36).f1 + 1)) m ≤ (j : Int)
    · exact hx
    · exfalso
      have hcount := S.mthLast_count (S.upZ_up _ _ _ _) h1 hmu
      generalize S.mthLast (S.upZ (V.ahead l k) 0 (((V.ahead l k).length : Int) - k) ((l.getD i z36).f1 + 1)) m = x at hx hcount
      have hin : ∀ y ∈ (S.upZ (V.ahead l k) 0 (((V.ahead l k).length : Int) - k) ((l.getD i z36).f1 + 1)).filter (fun y => decide (x ≤ y)), (j : Int) < y ∧ y < (V.atTo l (l.length - k)).length ∧ (l.getD i z36).f1 + 1 ≤ rd (V.ahead l k) y := fun y hy => by
        rw [List.mem_filter, decide_eq_true_eq] at hy
        have := S.upZ_mem.1 hy.1
        exact ⟨by omega, by omega, this.2.2.2.2⟩
      have hup := S.up_filter (S.upZ_up (V.ahead l k) 0 (((V.ahead l k).length : Int) - k) ((l.getD i z36).f1 + 1)) (fun y => decide (x ≤ y))
      generalize (S.upZ (V.ahead l k) 0 (((V.ahead l k).length : Int) - k) ((l.getD i z36).f1 + 1)).filter (fun y => decide (x ≤ y)) = F at hcount hin hup
      have hle : (F.map fun y => rd (V.atTo l (l.length - k)) y).length ≤ (((List.range' (i + 1) (l.length - k - (i + 1))).filter (V.isU l n)).map fun j : Nat => (j : Int)).length := by
        refine S.sub_len ?_ ?_ fun z hz => ?_
        · refine List.pairwise_map.2 (List.Pairwise.imp_of_mem ?_ hup)
          intro a b ha hb hab
          have h3 := hin a ha
          have h4 := hin b hb
          obtain ⟨a', rfl⟩ : ∃ i : Nat, a = i := ⟨a.toNat, by omega⟩
          obtain ⟨b', rfl⟩ : ∃ i : Nat, b = i := ⟨b.toNat, by omega⟩
          exact S.up_rd (V.atTo_up _ _) (by omega) (by omega)
        · exact List.Pairwise.map _ (fun a b h => Int.ofNat_lt.2 h) (List.Pairwise.filter _ (List.pairwise_lt_range' ..))
        · obtain ⟨y, hy, rfl⟩ := List.mem_map.1 hz
          have h3 := hin y hy
          obtain ⟨y', rfl⟩ : ∃ i : Nat, y = i := ⟨y.toNat, by omega⟩
          have h5 := S.up_rd (V.atTo_up l (l.length - k)) (i := j) (j := y') (by omega) (by omega)
          rw [hjr] at h5
          have h6 := V.ahead_rd l k (j := y') (by omega)
          obtain ⟨q, e, hq, hqs⟩ := V.atTo_mem.1 (S.rd_mem (a := V.atTo l (l.length - k)) (i := (y' : Int)) (by omega) (by omega))
          rw [e] at h5 h6 ⊢
          rw [Int.toNat_natCast] at h6
          refine List.mem_map.2 ⟨q, ?_, rfl⟩
          rw [List.mem_filter, List.mem_range'_1]
          refine ⟨⟨by omega, by omega⟩, ?_⟩
          unfold V.isU
          rw [hqs, Bool.true_and, decide_eq_true_eq]
          have := h3.2.2
          rw [h6] at this
          have := hu.2
          omega
      rw [List.length_map, List.length_map] at hle
      unfold V.cnt at hc
      omega
  · unfold S.mthLast
    rw [if_neg hmu]
    omega


/-! ### blocks none of which is Up -/
def V.non (l : List S36) (i : Nat) : List S36 := (l.take i).map fun y => ⟨false, y.f1, y.f2⟩
theorem V.non_len {l : List S36} {i : Nat} (h : i ≤ l.length) : (V.non l i).length = i := by unfold V.non; rw [List.length_map, List.length_take]; omega
theorem V.non_succ {l : List S36} {i : Nat} (h : i < l.length) : V.non l (i + 1) = V.non l i ++ [⟨false, (l.getD i z36).f1, (l.getD i z36).f2⟩] := by
  unfold V.non
  rw [List.take_succ_eq_append_getElem h, List.map_append, List.getD_eq_getElem?_getD, List.getElem?_eq_getElem h]
  rfl
theorem V.non_all (l : List S36) : V.non l l.length = l.map fun y => ⟨false, y.f1, y.f2⟩ := by unfold V.non; rw [List.take_length]
theorem V.non_may (l : List S36) : V.mayV (V.non l l.length) = V.mayV l := by
  rw [V.non_all]
  unfold V.mayV V.lev
  rw [List.map_map]
  rfl
theorem V.non_up (l : List S36) (j : Nat) : ((V.non l l.length).getD j z36).f0 = false := by
  rw [V.non_all, List.getD_eq_getElem?_getD, List.getElem?_map]
  cases l[j]? <;> rfl
theorem V.non_sm (l : List S36) (j : Nat) : V.sm (V.non l l.length) j = decide (j = 0) := by
  unfold V.sm V.isB
  rw [V.non_up, Bool.false_and, Bool.or_false]
theorem V.non_smooth {l : List S36} (hm : V.mayV l = true) (j : Nat) (hj : j < l.length) : (V.smoothZ (V.non l l.length)).getD j false = decide (j = 0) := by
  rw [V.smz_at (by rw [V.non_may]; exact hm) (by rw [V.non_len (Nat.le_refl _)]; exact hj), V.non_sm]
theorem V.non_thorny (l : List S36) : V.thornyL (V.non l l.length) = [] := by
  unfold V.thornyL
  refine List.eq_nil_iff_forall_not_mem.2 fun x hx => ?_
  obtain ⟨j, rfl, _, h2, _⟩ := V.thTo_mem.1 hx
  rw [V.non_up] at h2
  cases h2
theorem V.non_pref {l : List S36} (hm : V.mayV l = true) (m k2 : Int) : V.prefZ (V.non l l.length) m k2 = ([], false) ∨ V.prefZ (V.non l l.length) m k2 = ([0], true) := by
  have hm' : V.mayV (V.non l l.length) = true := by rw [V.non_may]; exact hm
  have hl := V.non_len (l := l) (Nat.le_refl _)
  by_cases c : V.mayV (V.non l l.length) = true ∧ 1 ≤ m ∧ 1 ≤ k2 ∧ k2 < (V.non l l.length).length
  · right
    obtain ⟨_, c1, c2, c3⟩ := c
    obtain ⟨q, rfl⟩ : ∃ q : Nat, k2 = q := ⟨k2.toNat, by omega⟩
    rw [V.pk_is hm' c1 (by omega) (by omega)]
    congr 1
    have hup := V.pk_up (V.non l l.length) m q
    obtain ⟨z0, _⟩ := V.pk_zero hm' c1 (by omega : 1 ≤ q) (by omega : q < (V.non l l.length).length)
    have hall : ∀ x ∈ V.pk (V.non l l.length) m q, x = 0 := fun x hx => by
      obtain ⟨i, rfl, h1, h2⟩ := V.pk_mem m q hx
      rw [V.non_smooth hm i (by omega)] at h2
      have := of_decide_eq_true h2
      omega
    generalize V.pk (V.non l l.length) m q = p at hup z0 hall
    match p, hup, z0, hall with
    | [x], _, _, h => rw [h x (by simp)]
    | x :: y :: p, h1, _, h =>
      have e1 := h x (by simp)
      have e2 := h y (by simp)
      have := (List.pairwise_cons.1 h1).1 y (by simp)
      omega
  · left
    exact V.prefZ_no c

end Go.Proofs.Yteekdggainficaa.X
