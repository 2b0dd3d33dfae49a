/- All that is taken is smooth, rises, and stands ahead of the last k; the first block is, and, of smooth ones ahead, the last m of each level: plain. -/
import Derived.Test.YteekdggainficaaMPY
import Derived.Test.YteekdggainficaaMXstepladderlaw21VelvetSmooth
namespace Go.Proofs.Yteekdggainficaa.X
open Go.RowKit Go.Proofs.YteekdggainficaaW.PrintWords
theorem V.atTo_mem {l : List S36} {i : Nat} {x : Int} : x ∈ V.atTo l i ↔ ∃ j : Nat, x = j ∧ j < i ∧ (V.smoothZ l).getD j false = true := by
  unfold V.atTo
  rw [List.mem_map]
  constructor
  · rintro ⟨j, hj, rfl⟩
    rw [List.mem_filter, List.mem_range] at hj
    exact ⟨j, rfl, hj.1, hj.2⟩
  · rintro ⟨j, rfl, h1, h2⟩
    exact ⟨j, by rw [List.mem_filter, List.mem_range]; exact ⟨h1, h2⟩, rfl⟩
theorem V.atTo_up (l : List S36) (i : Nat) : S.Up (V.atTo l i) := by
  unfold V.atTo
  exact List.Pairwise.map _ (fun a b h => Int.ofNat_lt.2 h) (List.Pairwise.filter _ List.pairwise_lt_range)
/-- A rising list's first number, if it has a least one. -/
theorem S.up_first {a : List Int} (h : S.Up a) {x : Int} (hx : x ∈ a) (hl : ∀ y ∈ a, x ≤ y) : rd a 0 = x := by
  cases a with
  | nil => simp at hx
  | cons y a =>
    show y = x
    have h1 := hl y (by simp)
    rcases List.mem_cons.1 hx with e | e
    · exact e.symm
    · have := (List.pairwise_cons.1 h).1 x e
      omega
/-- Blocks that may be: their parts. -/
theorem V.may_parts {l : List S36} (h : V.mayV l = true) : 0 < l.length ∧ l.length ≤ 200 ∧ (l.getD 0 z36).f1 = 31 ∧ ∀ j : Nat, j < l.length → 0 ≤ (l.getD j z36).f1 ∧ (l.getD j z36).f1 ≤ 31 := by
  have h' := S.mayB_parts h
  rw [V.lev_len] at h'
  refine ⟨h'.1, h'.2.1, ?_, fun j hj => ?_⟩
  · have := V.lev_rd (l := l) (j := 0) h'.1
    rw [← this]
    exact h'.2.2.1
  · rw [← V.lev_rd hj]
    exact h'.2.2.2 j (by omega) (by omega)
theorem V.smz_zero {l : List S36} (h : V.mayV l = true) : (V.smoothZ l).getD 0 false = true := by
  rw [V.smz_at h (V.may_parts h).1]
  rfl

/-- The levels of what is smooth ahead, and k of level 0. -/
def V.ahead (l : List S36) (k : Nat) : List Int := V.lev (V.smo l (l.length - k)) ++ List.replicate k 0
theorem V.ahead_len (l : List S36) (k : Nat) : (V.ahead l k).length = (V.atTo l (l.length - k)).length + k := by
  unfold V.ahead
  rw [List.length_append, List.length_replicate, V.lev_len]
  unfold V.smo
  rw [List.length_map]
theorem V.ahead_rd (l : List S36) (k : Nat) {j : Nat} (h : j < (V.atTo l (l.length - k)).length) : rd (V.ahead l k) j = (l.getD (rd (V.atTo l (l.length - k)) j).toNat z36).f1 := by
  have hl := V.ahead_len l k
  rw [rd_get (by omega), rd_get h]
  unfold V.ahead
  rw [List.getElem_append_left (by rw [V.lev_len]; unfold V.smo; rw [List.length_map]; exact h)]
  unfold V.lev V.smo
  rw [List.getElem_map, List.getElem_map]
theorem V.ahead_rest (l : List S36) (k : Nat) {j : Nat} (h : (V.atTo l (l.length - k)).length ≤ j) (h2 : j < (V.ahead l k).length) : rd (V.ahead l k) j = 0 := by
  unfold V.ahead at h2 ⊢
  rw [rd_get h2, List.getElem_append_right (by rw [V.lev_len]; unfold V.smo; rw [List.length_map]; exact h), List.getElem_replicate]
theorem V.at_first {l : List S36} (hm : V.mayV l = true) {k : Nat} (h2 : k < l.length) : 0 < (V.atTo l (l.length - k)).length ∧ rd (V.atTo l (l.length - k)) 0 = 0 := by
  have h0 : (0 : Int) ∈ V.atTo l (l.length - k) := V.atTo_mem.2 ⟨0, rfl, by omega, V.smz_zero hm⟩
  exact ⟨List.length_pos_of_mem h0, S.up_first (V.atTo_up _ _) h0 fun y hy => by obtain ⟨j, rfl, _⟩ := V.atTo_mem.1 hy; omega⟩
theorem V.ahead_ok {l : List S36} (hm : V.mayV l = true) {m : Int} {k : Nat} (h1 : 1 ≤ m) (hk : 1 ≤ k) (h2 : k < l.length) : S.okB (V.ahead l k) m k = true := by
  obtain ⟨p0, p1, p2, p3⟩ := V.may_parts hm
  obtain ⟨q0, q1⟩ := V.at_first hm h2
  have hl := V.ahead_len l k
  have hal := V.atTo_len l (l.length - k)
  refine S.okB_iff.2 ⟨S.mayB_of (by omega) (by omega) ?_ fun x a b => ?_, h1, by omega, by omega⟩
  · have := V.ahead_rd l k (j := 0) q0
    rw [show ((0 : Nat) : Int) = 0 from rfl, q1] at this
    rw [this]
    exact p2
  · obtain ⟨j, rfl⟩ : ∃ j : Nat, x = j := ⟨x.toNat, by omega⟩
    by_cases c : j < (V.atTo l (l.length - k)).length
    · rw [V.ahead_rd l k c]
      have hmem := S.rd_mem (a := V.atTo l (l.length - k)) (i := (j : Int)) (by omega) (by omega)
      obtain ⟨i, e, hi, _⟩ := V.atTo_mem.1 hmem
      rw [e, Int.toNat_natCast]
      exact p3 i (by omega)
    · rw [V.ahead_rest l k (by omega) (by omega)]
      omega

/-- Is a block of a level at least, and smooth? -/
def V.isU (l : List S36) (n : Int) (j : Nat) : Bool := (V.smoothZ l).getD j false && decide (n ≤ (l.getD j z36).f1)
/-- How many such there are from i on, ahead of hi. -/
def V.cnt (l : List S36) (n : Int) (hi i : Nat) : Nat := ((List.range' i (hi - i)).filter (V.isU l n)).length
theorem V.cnt_hi (l : List S36) (n : Int) (hi : Nat) : V.cnt l n hi hi = 0 := by unfold V.cnt; rw [Nat.sub_self]; rfl
theorem V.cnt_step (l : List S36) (n : Int) {hi i : Nat} (h : i < hi) : V.cnt l n hi i = V.cnt l n hi (i + 1) + if V.isU l n i = true then 1 else 0 := by
  unfold V.cnt
  rw [show hi - i = (hi - (i + 1)) + 1 from by omega, List.range'_succ]
  by_cases c : V.isU l n i = true
  · rw [List.filter_cons_of_pos c, if_pos c, List.length_cons]
  · rw [List.filter_cons_of_neg c, if_neg c]; rfl
theorem V.cnt_le (l : List S36) (n : Int) (hi i : Nat) : V.cnt l n hi i ≤ hi := by
  unfold V.cnt
  have := List.length_filter_le (V.isU l n) (List.range' i (hi - i))
  rw [List.length_range'] at this
  omega

/-- What is taken of blocks. -/
def V.pk (l : List S36) (m : Int) (k : Nat) : List Int := (S.takenL (V.ahead l k) m k).map fun j => rd (V.atTo l (l.length - k)) j
theorem V.pk_is {l : List S36} (hm : V.mayV l = true) {m : Int} {k : Nat} (h1 : 1 ≤ m) (hk : 1 ≤ k) (h2 : k < l.length) : V.prefZ l m k = (V.pk l m k, true) := by
  rw [V.prefZ_ok hm h1 hk h2]
  have := S.prefZ_ok (V.ahead_ok hm h1 hk h2)
  unfold V.ahead at this
  rw [this]
  rfl
theorem V.pk_at {l : List S36} (m : Int) (k : Nat) {j : Int} (h : j ∈ S.takenL (V.ahead l k) m k) : 0 ≤ j ∧ j < (V.atTo l (l.length - k)).length := by
  have := S.takenL_mem.1 h
  rw [V.ahead_len] at this
  omega
theorem V.pk_mem {l : List S36} (m : Int) (k : Nat) {x : Int} (h : x ∈ V.pk l m k) : ∃ i : Nat, x = i ∧ i < l.length - k ∧ (V.smoothZ l).getD i false = true := by
  unfold V.pk at h
  obtain ⟨j, hj, rfl⟩ := List.mem_map.1 h
  have hb := V.pk_at m k hj
  exact V.atTo_mem.1 (S.rd_mem hb.1 hb.2)
theorem V.pk_up (l : List S36) (m : Int) (k : Nat) : S.Up (V.pk l m k) := by
  unfold V.pk
  refine List.pairwise_map.2 ?_
  refine List.Pairwise.imp_of_mem ?_ (S.takenL_up (V.ahead l k) m k)
  intro a b ha hb hab
  have h1 := V.pk_at m k ha
  have h2 := V.pk_at m k hb
  obtain ⟨i, rfl⟩ : ∃ i : Nat, a = i := ⟨a.toNat, by omega⟩
  obtain ⟨j, rfl⟩ : ∃ j : Nat, b = j := ⟨b.toNat, by omega⟩
  exact S.up_rd (V.atTo_up _ _) (by omega) (by omega)
theorem V.pk_zero {l : List S36} (hm : V.mayV l = true) {m : Int} {k : Nat} (h1 : 1 ≤ m) (hk : 1 ≤ k) (h2 : k < l.length) : 0 < (V.pk l m k).length ∧ rd (V.pk l m k) 0 = 0 := by
  have h0 : (0 : Int) ∈ V.pk l m k := by
    unfold V.pk
    exact List.mem_map.2 ⟨0, S.taken_zero (V.ahead_ok hm h1 hk h2), (V.at_first hm h2).2⟩
  exact ⟨List.length_pos_of_mem h0, S.up_first (V.pk_up l m k) h0 fun y hy => by obtain ⟨j, rfl, _⟩ := V.pk_mem m k hy; omega⟩
/-- The last m of a level at least are taken. -/
theorem V.pk_last {l : List S36} (hm : V.mayV l = true) {m : Int} {k : Nat} (h1 : 1 ≤ m) (hk : 1 ≤ k) (h2 : k < l.length) (n : Int) {i : Nat} (hi : i < l.length - k) (hu : V.isU l n i = true) (hc : (V.cnt l n (l.length - k) (i + 1) : Int) < m) : (i : Int) ∈ V.pk l m k := by
  have hok := V.ahead_ok hm h1 hk h2
  have hal := V.ahead_len l k
  unfold V.isU at hu
  rw [Bool.and_eq_true, decide_eq_true_eq] at hu
  have hmem : (i : Int) ∈ V.atTo l (l.length - k) := V.atTo_mem.2 ⟨i, rfl, hi, hu.1⟩
  obtain ⟨j, hj, hji⟩ := List.getElem_of_mem hmem
  have hjr : rd (V.atTo l (l.length - k)) j = i := by rw [rd_get hj, hji]
  have hlv : rd (V.ahead l k) j = (l.getD i z36).f1 := by rw [V.ahead_rd l k hj, hjr, Int.toNat_natCast]
  have hpl := (V.may_parts hm).2.2.2 i (by omega)
  refine List.mem_map.2 ⟨j, S.takenL_mem.2 ⟨by omega, by omega, by omega, by rw [hlv]; exact hpl.1, ?_⟩, hjr⟩
  rw [hlv, S.fromZ_is hok hpl.2]
  by_cases hmu : m ≤ ((S.upZ (V.ahead l k) 0 (((V.ahead l k).length : Int) - k) ((l.getD i z36).f1 + 1)).length : Int)
  · by_cases hx : S.mthLast (S.upZ (V.ahead l k) 0 (((V.ahead l k).length : Int) - k) ((l.getD i z36).f1 + 1)) m ≤ (j : Int)
    · exact hx
    · exfalso
      have hcount := S.mthLast_count (S.upZ_up _ _ _ _) h1 hmu
      generalize S.mthLast (S.upZ (V.ahead l k) 0 (((V.ahead l k).length : Int) - k) ((l.getD i z36).f1 + 1)) m = x at hx hcount
      have hin : ∀ y ∈ (S.upZ (V.ahead l k) 0 (((V.ahead l k).length : Int) - k) ((l.getD i z36).f1 + 1)).filter (fun y => decide (x ≤ y)), (j : Int) < y ∧ y < (V.atTo l (l.length - k)).length ∧ (l.getD i z36).f1 + 1 ≤ rd (V.ahead l k) y := fun y hy => by
        rw [List.mem_filter, decide_eq_true_eq] at hy
        have := S.upZ_mem.1 hy.1
        exact ⟨by omega, by omega, this.2.2.2.2⟩
      have hup := S.up_filter (S.upZ_up (V.ahead l k) 0 (((V.ahead l k).length : Int) - k) ((l.getD i z36).f1 + 1)) (fun y => decide (x ≤ y))
      generalize (S.upZ (V.ahead l k) 0 (((V.ahead l k).length : Int) - k) ((l.getD i z36).f1 + 1)).filter (fun y => decide (x ≤ y)) = F at hcount hin hup
      have hle : (F.map fun y => rd (V.atTo l (l.length - k)) y).length ≤ (((List.range' (i + 1) (l.length - k - (i + 1))).filter (V.isU l n)).map fun j : Nat => (j : Int)).length := by
        refine S.sub_len ?_ ?_ fun z hz => ?_
        · refine List.pairwise_map.2 (List.Pairwise.imp_of_mem ?_ hup)
          intro a b ha hb hab
          have h3 := hin a ha
          have h4 := hin b hb
          obtain ⟨a', rfl⟩ : ∃ i : Nat, a = i := ⟨a.toNat, by omega⟩
          obtain ⟨b', rfl⟩ : ∃ i : Nat, b = i := ⟨b.toNat, by omega⟩
          exact S.up_rd (V.atTo_up _ _) (by omega) (by omega)
        · exact List.Pairwise.map _ (fun a b h => Int.ofNat_lt.2 h) (List.Pairwise.filter _ (List.pairwise_lt_range' ..))
        · obtain ⟨y, hy, rfl⟩ := List.mem_map.1 hz
          have h3 := hin y hy
          obtain ⟨y', rfl⟩ : ∃ i : Nat, y = i := ⟨y.toNat, by omega⟩
          have h5 := S.up_rd (V.atTo_up l (l.length - k)) (i := j) (j := y') (by omega) (by omega)
          rw [hjr] at h5
          have h6 := V.ahead_rd l k (j := y') (by omega)
          obtain ⟨q, e, hq, hqs⟩ := V.atTo_mem.1 (S.rd_mem (a := V.atTo l (l.length - k)) (i := (y' : Int)) (by omega) (by omega))
          rw [e] at h5 h6 ⊢
          rw [Int.toNat_natCast] at h6
          refine List.mem_map.2 ⟨q, ?_, rfl⟩
          rw [List.mem_filter, List.mem_range'_1]
          refine ⟨⟨by omega, by omega⟩, ?_⟩
          unfold V.isU
          rw [hqs, Bool.true_and, decide_eq_true_eq]
          have := h3.2.2
          rw [h6] at this
          have := hu.2
          omega
      rw [List.length_map, List.length_map] at hle
      unfold V.cnt at hc
      omega
  · unfold S.mthLast
    rw [if_neg hmu]
    omega

/-! ### the law's loops -/
section
variable (l : List S36) (m : Int) (n : Int)
theorem P.vs_l2 (p : List Int) (s : List Bool) (x15 x16 : Int) (hp : p.length ≤ 1000) (B : Nat) (H : ∀ k, B ≤ k → stepladderlaw21_VelvetSmooth.l1 k l m n p s x15 (wrap64 (x16 - 1)) = some true) (d : Nat) : ∀ (k j : Nat) (th : Bool), p.length - j = d → j ≤ p.length → B + d < k → (th = true ∨ x16 ∈ p.drop j) →
    stepladderlaw21_VelvetSmooth.l2 k l m n p s x15 x16 th j = some true := by
  induction d with
  | zero =>
    intro k j th hd hj hk ht
    obtain ⟨k, rfl⟩ : ∃ m, k = m + 1 := ⟨k - 1, by omega⟩
    rw [List.drop_of_length_le (by omega)] at ht
    have ht : th = true := ht.resolve_right (by simp)
    simp only [stepladderlaw21_VelvetSmooth.l2]
    rw [if_neg (by omega), if_pos ht]
    exact H k (by omega)
  | succ d ih =>
    intro k j th hd hj hk ht
    obtain ⟨k, rfl⟩ : ∃ m, k = m + 1 := ⟨k - 1, by omega⟩
    have hjp : j < p.length := by omega
    have ih := fun th => ih k (j + 1) th (by omega) (by omega) (by omega)
    simp only [stepladderlaw21_VelvetSmooth.l2]
    rw [if_pos (by omega), P.nx (by omega)]
    cases th with
    | true => rw [if_pos rfl]; exact ih true (.inl rfl)
    | false =>
      rw [if_neg (by decide), if_pos (by omega), rd_get hjp]
      refine ih _ ?_
      have ht := ht.resolve_left (by decide)
      rw [List.drop_eq_getElem_cons hjp, List.mem_cons] at ht
      rcases ht with e | e
      · exact .inl (beq_iff_eq.2 e.symm)
      · exact .inr e
theorem P.vs_l1 (p : List Int) (s : List Bool) (hs : s = V.smoothZ l) (hsl : s.length = l.length) (hp : p.length ≤ 1000) (hll : l.length ≤ 1000) (hi : Nat) (hhi : hi ≤ l.length)
    (H : ∀ i < hi, V.isU l n i = true → (V.cnt l n hi (i + 1) : Int) < m → (i : Int) ∈ p) (d : Nat) : ∀ k : Nat, d ≤ hi → 1100 * d + 10 < k → stepladderlaw21_VelvetSmooth.l1 k l m n p s (V.cnt l n hi d) ((d : Int) - 1) = some true := by
  induction d with
  | zero =>
    intro k hd hk
    obtain ⟨k, rfl⟩ : ∃ m, k = m + 2 := ⟨k - 2, by omega⟩
    simp only [stepladderlaw21_VelvetSmooth.l1]
    rw [if_neg (by omega)]
    simp only [stepladderlaw21_VelvetSmooth.j5]
    rw [if_neg (by decide)]
  | succ d ih =>
    intro k hd hk
    obtain ⟨k, rfl⟩ : ∃ m, k = m + 3 := ⟨k - 3, by omega⟩
    have hc := V.cnt_step l n (hi := hi) (i := d) (by omega)
    have hcl := V.cnt_le l n hi (d + 1)
    have hw : wrap64 ((d : Int) - 1) = (d : Int) - 1 := E.wrap_id (by omega) (by omega)
    simp only [stepladderlaw21_VelvetSmooth.l1]
    rw [show (((d + 1 : Nat) : Int) - 1) = (d : Int) from by omega, if_pos (by omega)]
    simp only [stepladderlaw21_VelvetSmooth.j5]
    by_cases c : (V.cnt l n hi (d + 1) : Int) < m
    · rw [if_pos (decide_eq_true c), if_pos (by omega), if_pos (by omega), show rdOf false s (d : Int) = (V.smoothZ l).getD d false from by unfold rdOf; rw [Int.toNat_natCast, hs]]
      cases h : (V.smoothZ l).getD d false with
      | false =>
        rw [if_neg (by decide)]
        have hu : V.isU l n d = false := by unfold V.isU; rw [h]; rfl
        rw [hu, if_neg (by decide)] at hc
        simp only [stepladderlaw21_VelvetSmooth.j6]
        rw [if_pos trivial, hw, ← Nat.add_zero (V.cnt l n hi (d + 1)), ← hc]
        exact ih k (by omega) (by omega)
      | true =>
        rw [if_pos rfl, if_pos (by omega), show rd_T36 l (d : Int) = l.getD d z36 from by unfold rd_T36; rw [Int.toNat_natCast]]
        by_cases c2 : (l.getD d z36).f1 < n
        · have hu : V.isU l n d = false := by unfold V.isU; rw [h, decide_eq_false (by omega)]; rfl
          rw [hu, if_neg (by decide)] at hc
          rw [decide_eq_true c2]
          simp only [stepladderlaw21_VelvetSmooth.j6]
          rw [if_pos trivial, hw, ← Nat.add_zero (V.cnt l n hi (d + 1)), ← hc]
          exact ih k (by omega) (by omega)
        · have hu : V.isU l n d = true := by unfold V.isU; rw [h, decide_eq_true (by omega)]; rfl
          have hin := H d (by omega) hu c
          rw [hu, if_pos rfl] at hc
          rw [decide_eq_false c2]
          simp only [stepladderlaw21_VelvetSmooth.j6]
          rw [if_neg (by decide), show wrap64 ((V.cnt l n hi (d + 1) : Int) + 1) = ((V.cnt l n hi d : Nat) : Int) from by rw [E.wrap_id (by omega) (by omega)]; omega]
          exact P.vs_l2 l m n p s _ _ hp (1100 * d + 11) (fun k hk => by rw [hw]; exact ih k (by omega) (by omega)) p.length k 0 false (by omega) (by omega) (by omega) (.inr (by rw [List.drop_zero]; exact hin))
    · rw [if_neg (by rw [decide_eq_true_eq]; exact c)]
theorem P.vs_l0 (k2 : Nat) (hk2 : k2 ≤ l.length) (hll : l.length ≤ 1000) (p : List Int) (s : List Bool) (hsl : s.length = l.length) (hp : p.length ≤ 1000) (hup : S.Up p) (hin : ∀ x ∈ p, ∃ i : Nat, x = i ∧ i < l.length - k2 ∧ s.getD i false = true) (r : Option Bool) (B : Nat)
    (H : ∀ k, B ≤ k → stepladderlaw21_VelvetSmooth.l1 k l m n p s 0 (wrap64 (wrap64 ((l.length : Int) - k2) - 1)) = r) (d : Nat) : ∀ (k j : Nat), p.length - j = d → j ≤ p.length → B + d < k → stepladderlaw21_VelvetSmooth.l0 k l m k2 n p s j = r := by
  induction d with
  | zero =>
    intro k j hd hj hk
    obtain ⟨k, rfl⟩ : ∃ m, k = m + 1 := ⟨k - 1, by omega⟩
    simp only [stepladderlaw21_VelvetSmooth.l0]
    rw [if_neg (by omega)]
    exact H k (by omega)
  | succ d ih =>
    intro k j hd hj hk
    obtain ⟨k, rfl⟩ : ∃ m, k = m + 1 := ⟨k - 1, by omega⟩
    have ih := ih k (j + 1) (by omega) (by omega) (by omega)
    obtain ⟨i, hi, hi2, hi3⟩ := hin (rd p j) (S.rd_mem (by omega) (by omega))
    have hw : wrap64 ((l.length : Int) - k2) = (l.length : Int) - k2 := E.wrap_id (by omega) (by omega)
    simp only [stepladderlaw21_VelvetSmooth.l0]
    rw [if_pos (by omega), if_pos (by omega), hi, if_neg (by omega), hw, if_neg (by omega), if_pos (by omega), if_pos (by omega), show rdOf false s (i : Int) = true from by unfold rdOf; rw [Int.toNat_natCast, hi3], if_pos rfl, P.nx (by omega)]
    by_cases c : (j : Int) > 0
    · rw [if_pos c, show wrap64 ((j : Int) - 1) = ((j - 1 : Nat) : Int) from by rw [E.wrap_id (by omega) (by omega)]; omega, if_pos (by omega), if_pos (by omega)]
      have := S.up_rd hup (i := j - 1) (j := j) (by omega) (by omega)
      rw [hi] at this
      rw [if_neg (by omega)]
      exact ih
    · rw [if_neg c]
      exact ih
end
end Go.Proofs.Yteekdggainficaa.X
namespace Go.Proofs.Yteekdggainficaa.Pure
open Go.RowKit Go.Proofs.Yteekdggainficaa.X Go.Proofs.YteekdggainficaaW.PrintWords Go.Proofs.YteekdggainficaaW.PrintLast

theorem VelvetSmooth : ∀ (l0 : List S36) (a1 a2 a3 : Int), l0.length ≤ 9223372036854775807 → (∀ y ∈ l0, (Lit.int .i64 y.f1).wf = true) → (Lit.int .i64 a1).wf = true → (Lit.int .i64 a2).wf = true → (Lit.int .i64 a3).wf = true → ∃ k, stepladderlaw21_VelvetSmooth.f k l0 a1 a2 a3 = some true := by
  intro l m k2 n hl _ wm _ _
  have hm1 := (P.wf_bounds wm).2
  obtain ⟨k, hk⟩ : ∃ k, l.length + 500000 = k := ⟨_, rfl⟩
  refine ⟨k + 4, ?_⟩
  obtain ⟨b, hb, hbt⟩ := P.few_f l hl (k + 4) (by omega)
  have hj0 : stepladderlaw21_VelvetSmooth.j0 (k + 4) l m k2 n true true = some true := by simp only [stepladderlaw21_VelvetSmooth.j0, if_true]
  unfold stepladderlaw21_VelvetSmooth.f
  rw [P.awake21 _ (by omega), hb]
  simp only [Option.bind_some, if_true]
  cases b with
  | false => rw [if_neg (by decide)]; exact hj0
  | true =>
    obtain ⟨h210, _⟩ := hbt rfl
    rw [if_pos rfl]
    by_cases hm1000 : m > 1000
    · rw [decide_eq_true hm1000]; exact hj0
    rw [decide_eq_false hm1000]
    simp only [stepladderlaw21_VelvetSmooth.j0]
    rw [if_neg (by decide), P.vprefix_f l m k2 (by omega) hm1, P.smooth_f l (by omega)]
    simp only [Option.bind_some]
    rw [V.may_f l (by omega) _ (by omega)]
    simp only [Option.bind_some]
    by_cases c : V.mayV l = true ∧ 1 ≤ m ∧ 1 ≤ k2 ∧ k2 < l.length
    · obtain ⟨hm, c1, c2, c3⟩ := c
      obtain ⟨q, rfl⟩ : ∃ q : Nat, k2 = q := ⟨k2.toNat, by omega⟩
      have hsl := (V.smoothZ_len l).2 hm
      obtain ⟨z0, z1⟩ := V.pk_zero hm c1 (by omega) (by omega : q < l.length)
      have hpl : (V.pk l m q).length ≤ 1000 := by
        unfold V.pk
        rw [List.length_map]
        have h1 := V.taken_len (V.ahead l q) m q
        rw [S.prefZ_ok (V.ahead_ok hm c1 (by omega) (by omega))] at h1
        have h2 := V.ahead_len l q
        have h3 := V.atTo_len l (l.length - q)
        simp only at h1
        omega
      rw [if_pos hm, if_pos (by omega), if_pos (by omega), V.pk_is hm c1 (by omega) (by omega)]
      rw [show (true != decide ((l.length : Int) > (q : Int))) = false from by rw [decide_eq_true (by omega)]; rfl]
      simp only [stepladderlaw21_VelvetSmooth.j1]
      rw [if_neg (by decide), if_pos trivial, if_neg (by omega), if_pos (by omega), if_pos z1, if_pos (by omega), if_neg (by omega), decide_eq_false (by omega)]
      simp only [stepladderlaw21_VelvetSmooth.j2]
      rw [if_neg (by decide)]
      refine P.vs_l0 l m n q (by omega) (by omega) (V.pk l m q) (V.smoothZ l) hsl hpl (V.pk_up l m q) (fun x hx => V.pk_mem m q hx) (some true) 400000 (fun k hk => ?_) _ (k + 1) 0 rfl (by omega) (by omega)
      rw [show wrap64 (wrap64 ((l.length : Int) - q) - 1) = ((l.length - q : Nat) : Int) - 1 from by rw [E.wrap_id (x := (l.length : Int) - q) (by omega) (by omega), E.wrap_id (by omega) (by omega)]; omega]
      have := P.vs_l1 l m n (V.pk l m q) (V.smoothZ l) rfl hsl hpl (by omega) (l.length - q) (by omega) (fun i hi hu hc => V.pk_last hm c1 (by omega) (by omega) n hi hu hc) (l.length - q) k (Nat.le_refl _) (by omega)
      rw [V.cnt_hi] at this
      exact this
    · rw [V.prefZ_no c]
      have hf : ∀ b, stepladderlaw21_VelvetSmooth.j1 (k + 3) l m k2 n ([] : List Int) false (V.smoothZ l) (false != b) = some true ∨ b = true := fun b => by
        cases b with
        | true => exact .inr rfl
        | false =>
          left
          simp only [stepladderlaw21_VelvetSmooth.j1]
          rw [if_neg (by decide), if_neg (by decide)]
          rfl
      cases hm : V.mayV l with
      | false => rw [if_neg (by decide)]; exact (hf false).resolve_right (by decide)
      | true =>
        rw [if_pos rfl]
        by_cases c1 : m ≥ 1
        · rw [if_pos c1]
          by_cases c2 : k2 ≥ 1
          · rw [if_pos c2]
            exact (hf _).resolve_right (fun e => c ⟨hm, c1, c2, by have := of_decide_eq_true e; omega⟩)
          · rw [if_neg c2]; exact (hf false).resolve_right (by decide)
        · rw [if_neg c1]; exact (hf false).resolve_right (by decide)

end Go.Proofs.Yteekdggainficaa.Pure
