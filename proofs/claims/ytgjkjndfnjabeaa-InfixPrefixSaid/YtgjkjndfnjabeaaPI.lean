/- What infix's functions come to, as the print has them; plain facts on what is linked. -/
import Derived.Test.YtgjkjndfnjabeaaPA
import Derived.Test.YtgjkjndfnjabeaaS3
import Derived.Test.YtgjkjndfnjabeaaE8
import Derived.Test.YtgjkjndfnjabeaaXinfixBack
import Derived.Test.YtgjkjndfnjabeaaXinfixLinked
import Derived.Test.YtgjkjndfnjabeaaXinfixFollow
import Derived.Test.YtgjkjndfnjabeaaXinfixBoth
import Derived.Test.YtgjkjndfnjabeaaXstepladderlaw16awake
namespace Go.Proofs.Ytgjkjndfnjabeaa.X
open Go.RowKit Go.Proofs.YtgjkjndfnjabeaaW.PrintWords

theorem P.next {i : Nat} (hi : i ≤ 1000000) : wrap64 ((i : Int) + 1) = ((i + 1 : Nat) : Int) := by rw [E.wrap_id (by omega) (by omega)]; omega
theorem P.follow_f (l : List Int) (hi lo : Int) : infix_Follow.f l hi lo = some (S.followZ l hi lo) := rfl
theorem P.both_f (a b : List Int) (h : a.length + b.length ≤ 1000000) : infix_Both.f a b = some (S.bothL a b) := by
  unfold infix_Both.f
  rw [if_pos h]
theorem P.max_f (l : List Int) (h0 : 0 < l.length) (h : l.length ≤ 1000000) : slices_Max_int_int.f l = some (S.maxL l) := by
  unfold slices_Max_int_int.f
  rw [if_pos ⟨h0, h⟩]

/-- infix.Back -/
def S.backZ (l : List Int) (i n : Int) : Int := if S.mayB l = true ∧ 1 ≤ i ∧ i < l.length ∧ 0 ≤ n ∧ n ≤ 31 then S.backN l n i.toNat else -1
theorem P.back_f (l : List Int) (i n : Int) (k : Nat) (hk : 300 < k) : infix_Back.f k l i n = some (S.backZ l i n) := by
  unfold infix_Back.f S.backZ
  rw [P.may_f]
  simp only [Option.bind_some]
  by_cases c0 : S.mayB l = true
  · obtain ⟨_, h1, h2, _⟩ := S.mayB_parts c0
    rw [if_pos c0]
    by_cases c1 : i < 1
    · rw [if_pos c1, if_neg (by omega)]
    rw [if_neg c1]
    by_cases c2 : i ≥ (l.length : Int)
    · rw [if_pos c2, if_neg (by omega)]
    rw [if_neg c2]
    by_cases c3 : n < 0
    · rw [if_pos c3, if_neg (by omega)]
    rw [if_neg c3]
    by_cases c4 : n > 31
    · rw [if_pos c4, if_neg (by omega)]
    rw [if_neg c4, if_pos ⟨c0, by omega, by omega, by omega, by omega⟩, E.back_f l n h1 (by omega) i (by omega) (by omega) k hk]
    rfl
  · rw [if_neg c0, if_neg (fun h => c0 h.1)]

/-- Of what slices.Compact leaves of a sorted row. -/
theorem S.compact_facts (zs : List Int) (hs : zs.Pairwise (· ≤ ·)) : ∀ m : Nat, m ≤ zs.length → S.Up (Lib.compactUpTo zs.toArray m) ∧ (∀ x : Int, x ∈ Lib.compactUpTo zs.toArray m ↔ ∃ j : Nat, j < m ∧ zs.getD j 0 = x) := by
  have hget : ∀ j : Nat, j < zs.length → zs.toArray[j]! = zs.getD j 0 := fun j hj => by simp [getElem!_pos, hj, List.getD]
  have hle : ∀ i j : Nat, i ≤ j → j < zs.length → zs.getD i 0 ≤ zs.getD j 0 := fun i j hij hj => by
    have hi : i < zs.length := by omega
    simp only [List.getD, List.getElem?_eq_getElem hi, List.getElem?_eq_getElem hj, Option.getD_some]
    rcases Nat.lt_or_ge i j with h | h
    · exact List.pairwise_iff_getElem.1 hs i j hi hj h
    · have : i = j := by omega
      subst this; exact Int.le_refl _
  intro m
  induction m with
  | zero => intro _; exact ⟨by simp [Lib.compactUpTo], fun x => by simp [Lib.compactUpTo]⟩
  | succ m ih =>
    intro hm
    obtain ⟨hup, hmem⟩ := ih (by omega)
    rw [Lib.compactUpTo_succ, hget m (by omega)]
    cases hk : Lib.keeps zs.toArray m with
    | true =>
      rw [if_pos rfl]
      have hgt : ∀ x ∈ Lib.compactUpTo zs.toArray m, x < zs.getD m 0 := fun x hx => by
        obtain ⟨j, hj, rfl⟩ := (hmem x).1 hx
        have h1 := hle j (m - 1) (by omega) (by omega)
        have h2 := hle (m - 1) m (by omega) (by omega)
        unfold Lib.keeps at hk
        rw [decide_eq_true_eq, hget m (by omega), hget (m - 1) (by omega)] at hk
        omega
      refine ⟨List.pairwise_append.2 ⟨hup, List.pairwise_singleton _ _, fun a ha b hb => by rw [List.mem_singleton] at hb; rw [hb]; exact hgt a ha⟩, fun x => ?_⟩
      rw [List.mem_append, hmem, List.mem_singleton]
      constructor
      · rintro (⟨j, hj, e⟩ | e)
        · exact ⟨j, by omega, e⟩
        · exact ⟨m, by omega, e.symm⟩
      · rintro ⟨j, hj, e⟩
        by_cases hjm : j = m
        · subst hjm; exact .inr e.symm
        · exact .inl ⟨j, by omega, e⟩
    | false =>
      rw [if_neg (by decide), List.append_nil]
      refine ⟨hup, fun x => ?_⟩
      unfold Lib.keeps at hk
      rw [decide_eq_false_iff_not, hget m (by omega), hget (m - 1) (by omega)] at hk
      rw [hmem]
      constructor
      · rintro ⟨j, hj, e⟩; exact ⟨j, by omega, e⟩
      · rintro ⟨j, hj, e⟩
        by_cases hjm : j = m
        · subst hjm
          refine ⟨j - 1, by omega, ?_⟩
          rw [← e]
          by_cases h : zs.getD (j - 1) 0 = zs.getD j 0
          · exact h
          · exact absurd (.inr (Ne.symm h)) hk
        · exact ⟨j, by omega, e⟩
theorem S.both_facts (a b : List Int) : S.Up (S.bothL a b) ∧ ∀ x : Int, x ∈ S.bothL a b ↔ x ∈ a ∨ x ∈ b := by
  have hp : ((a ++ b).mergeSort fun x y => decide (x ≤ y)).Pairwise (· ≤ ·) := by
    have := List.pairwise_mergeSort (le := fun x y : Int => decide (x ≤ y)) (fun x y z => by simp; omega) (fun x y => by simp; omega) (a ++ b)
    exact this.imp fun h => by simpa using h
  obtain ⟨h1, h2⟩ := S.compact_facts _ hp _ (Nat.le_refl _)
  refine ⟨h1, fun x => ?_⟩
  have h3 := h2 x
  rw [show Lib.compactUpTo ((a ++ b).mergeSort fun x y => decide (x ≤ y)).toArray ((a ++ b).mergeSort fun x y => decide (x ≤ y)).length = S.bothL a b from rfl] at h3
  rw [h3, ← List.mem_append, ← List.mem_mergeSort (le := fun x y : Int => decide (x ≤ y)), List.mem_iff_getElem]
  constructor
  · rintro ⟨j, hj, e⟩
    refine ⟨j, hj, ?_⟩
    rw [← e, List.getD, List.getElem?_eq_getElem hj]
    rfl
  · rintro ⟨j, hj, e⟩
    refine ⟨j, hj, ?_⟩
    rw [← e, List.getD, List.getElem?_eq_getElem hj]
    rfl
theorem S.both_up (a b : List Int) : S.Up (S.bothL a b) := (S.both_facts a b).1
theorem S.both_mem {a b : List Int} {x : Int} : x ∈ S.bothL a b ↔ x ∈ a ∨ x ∈ b := (S.both_facts a b).2 x
theorem S.both_len (a b : List Int) : (S.bothL a b).length ≤ a.length + b.length := by
  unfold S.bothL
  refine Nat.le_trans (?_ : _ ≤ ((a ++ b).mergeSort fun x y => decide (x ≤ y)).length) (by simp)
  unfold Lib.compact Lib.compactUpTo
  rw [List.length_map]
  exact Nat.le_trans (List.length_filter_le _ _) (by simp)

/-- The greatest is below a number, if all are. -/
theorem S.maxL_lt {l : List Int} (h : 0 < l.length) (M : Int) : S.maxL l < M ↔ ∀ x ∈ l, x < M := by
  cases l with
  | nil => simp at h
  | cons x t =>
    clear h
    unfold S.maxL
    simp only
    induction t generalizing x with
    | nil => simp
    | cons y t ih =>
      rw [List.foldl_cons, ih]
      constructor
      · intro h z hz
        rcases List.mem_cons.1 hz with rfl | hz
        · have := h (if z < y then y else z) List.mem_cons_self
          split at this <;> omega
        · rcases List.mem_cons.1 hz with rfl | hz
          · have := h (if x < z then z else x) List.mem_cons_self
            split at this <;> omega
          · exact h z (List.mem_cons_of_mem _ hz)
      · intro h z hz
        rcases List.mem_cons.1 hz with rfl | hz
        · have h1 := h x List.mem_cons_self
          have h2 := h y (List.mem_cons_of_mem _ List.mem_cons_self)
          split <;> assumption
        · exact h z (List.mem_cons_of_mem _ (List.mem_cons_of_mem _ hz))

/-- May a place lead to another one, by some number? -/
def S.Step (l : List Int) (x y : Int) : Prop := y = x + 1 ∨ (1 ≤ rd l x ∧ ∀ z : Int, x < z → z < y → rd l z < rd l x)
/-- What is asked of the place of number j of some. -/
def S.LinkAt (l a : List Int) (j : Nat) : Prop := 0 ≤ rd a j ∧ rd a j < l.length ∧ (0 < j → rd a ((j : Int) - 1) < rd a j ∧ S.mayB l = true ∧ S.Step l (rd a ((j : Int) - 1)) (rd a j))

theorem S.mid_mem {l : List Int} {x y : Int} (hx : 0 ≤ x) (hy : y ≤ l.length) (M : Int) : (∀ z ∈ (l.take y.toNat).drop x.toNat, z < M) ↔ ∀ z : Int, x ≤ z → z < y → rd l z < M := by
  constructor
  · intro h z h1 h2
    refine h _ ?_
    have hz : z.toNat < l.length := by omega
    have hlen : z.toNat - x.toNat < ((l.take y.toNat).drop x.toNat).length := by rw [List.length_drop, List.length_take]; omega
    have := List.getElem_mem hlen
    rw [List.getElem_drop, List.getElem_take] at this
    have e : rd l z = l[z.toNat] := by have := rd_get hz; rwa [show ((z.toNat : Nat) : Int) = z from by omega] at this
    rw [e]
    simpa [show x.toNat + (z.toNat - x.toNat) = z.toNat from by omega] using this
  · intro h z hz
    obtain ⟨j, hj, rfl⟩ := List.mem_iff_getElem.1 hz
    rw [List.length_drop, List.length_take] at hj
    rw [List.getElem_drop, List.getElem_take]
    have := h ((x.toNat + j : Nat) : Int) (by omega) (by omega)
    rwa [rd_get (by omega)] at this

theorem P.linked_l0 (l a : List Int) (hl : l.length ≤ 210) (ha : a.length ≤ 100000) (d : Nat) : ∀ (k i : Nat) (last : Int), a.length - i = d → i ≤ a.length → 4 * d + 1 < k → (0 < i → last = rd a ((i : Int) - 1) ∧ 0 ≤ last ∧ last < l.length) → (i = 0 → last = -1) →
    ∃ b, infix_Linked.l0 k l last a a.length i = some b ∧ (b = true ↔ ∀ j : Nat, i ≤ j → j < a.length → S.LinkAt l a j) := by
  induction d with
  | zero =>
    intro k i last hd hi hk _ _
    obtain ⟨k, rfl⟩ : ∃ m, k = m + 1 := ⟨k - 1, by omega⟩
    simp only [infix_Linked.l0]
    rw [if_neg (by omega)]
    exact ⟨true, rfl, fun _ j h1 h2 => by omega, fun _ => rfl⟩
  | succ d ih =>
    intro k i last hd hi hk hlast hlast0
    obtain ⟨k, rfl⟩ : ∃ m, k = m + 1 + 1 + 1 := ⟨k - 3, by omega⟩
    have hi' : i < a.length := by omega
    have hno : ∀ (hbad : ¬ S.LinkAt l a i), ∃ b, some false = some b ∧ (b = true ↔ ∀ j : Nat, i ≤ j → j < a.length → S.LinkAt l a j) := fun hbad => ⟨false, rfl, fun e => (by cases e), fun h => absurd (h i (Nat.le_refl _) hi') hbad⟩
    have hj1t : infix_Linked.j1 (k + 1 + 1) l last i (rd a i) a a.length i true = some false := by simp only [infix_Linked.j1, if_true]
    simp only [infix_Linked.l0]
    rw [if_pos (by omega), if_pos (by omega), if_pos (by omega)]
    by_cases c1 : rd a i < 0
    · rw [if_pos c1, hj1t]; exact hno (fun h => by have := h.1; omega)
    rw [if_neg c1]
    by_cases c2 : rd a i ≥ (l.length : Int)
    · rw [if_pos c2, hj1t]; exact hno (fun h => by have := h.2.1; omega)
    rw [if_neg c2]
    obtain ⟨b, hb, hbi⟩ := ih k (i + 1) (rd a i) (by omega) (by omega) (by omega) (fun _ => ⟨by congr 1; omega, by omega, by omega⟩) (fun h => by omega)
    have hyes : ∀ (hok : S.LinkAt l a i), (b = true ↔ ∀ j : Nat, i ≤ j → j < a.length → S.LinkAt l a j) := fun hok => by
      rw [hbi]
      constructor
      · intro h j h1 h2
        by_cases e : j = i
        · subst e; exact hok
        · exact h j (by omega) h2
      · intro h j h1 h2; exact h j (by omega) h2
    have hgo : infix_Linked.l0 k l (rd a i) a a.length (wrap64 ((i : Int) + 1)) = some b := by rw [P.next (by omega)]; exact hb
    by_cases c3 : (i : Int) > 0
    · obtain ⟨hl1, hl2, hl3⟩ := hlast (by omega)
      rw [if_pos c3]
      by_cases c4 : rd a i ≤ last
      · rw [if_pos c4, hj1t]; exact hno (fun h => by have := (h.2.2 (by omega)).1; omega)
      rw [if_neg c4, P.may_f]
      simp only [Option.bind_some]
      cases hm : S.mayB l with
      | false => rw [show (!false) = true from rfl, hj1t]; exact hno (fun h => by have := (h.2.2 (by omega)).2.1; rw [hm] at this; cases this)
      | true =>
        rw [show (!true) = false from rfl]
        simp only [infix_Linked.j1]
        rw [if_neg (by decide), if_pos c3, E.wrap_id (x := rd a i - 1) (by omega) (by omega), E.wrap_id (x := last + 1) (by omega) (by omega)]
        by_cases c5 : last = rd a i - 1
        · rw [if_pos c5]
          simp only [infix_Linked.j2]
          rw [if_neg (by decide), if_pos c3, E.wrap_id (x := rd a i - 1) (by omega) (by omega), if_pos c5, hgo]
          exact ⟨b, rfl, hyes ⟨by omega, by omega, fun _ => ⟨by omega, hm, .inl (by omega)⟩⟩⟩
        · have hlen : 0 < ((l.take (rd a i).toNat).drop (last + 1).toNat).length := by rw [List.length_drop, List.length_take]; omega
          have hlen2 : ((l.take (rd a i).toNat).drop (last + 1).toNat).length ≤ 1000000 := by rw [List.length_drop, List.length_take]; omega
          have hmx := S.maxL_lt hlen (mx (rd l last) 1)
          rw [S.mid_mem (by omega) (by omega)] at hmx
          rw [if_neg c5, if_pos (by omega), if_pos (by omega), if_pos (by omega), P.max_f _ hlen hlen2]
          simp only [Option.bind_some]
          rw [if_pos hl2, if_pos hl3]
          by_cases c6 : S.maxL ((l.take (rd a i).toNat).drop (last + 1).toNat) ≥ mx (rd l last) 1
          · rw [decide_eq_true c6]
            simp only [infix_Linked.j2, if_true]
            refine hno (fun h => ?_)
            obtain ⟨_, _, hst⟩ := h.2.2 (by omega)
            rw [← hl1] at hst
            rcases hst with hst | ⟨h1, h2⟩
            · omega
            · have hlt := hmx.2 (fun z z1 z2 => by
                have := h2 z (by omega) z2
                unfold mx
                split <;> omega)
              omega
          · rw [decide_eq_false c6]
            simp only [infix_Linked.j2]
            rw [if_neg (by decide), if_pos c3, E.wrap_id (x := rd a i - 1) (by omega) (by omega), if_neg c5, if_pos hl2, if_pos hl3]
            by_cases c7 : rd l last = 0
            · rw [if_pos c7]
              refine hno (fun h => ?_)
              obtain ⟨_, _, hst⟩ := h.2.2 (by omega)
              rw [← hl1] at hst
              rcases hst with hst | ⟨h1, h2⟩ <;> omega
            · rw [if_neg c7, hgo]
              have hnn := ((S.mayB_parts hm).2.2.2 last hl2 hl3).1
              refine ⟨b, rfl, hyes ⟨by omega, by omega, fun _ => ⟨by omega, hm, .inr ?_⟩⟩⟩
              rw [← hl1]
              refine ⟨by omega, fun z z1 z2 => ?_⟩
              have := hmx.1 (by omega) z (by omega) z2
              unfold mx at this
              split at this <;> omega
    · rw [if_neg c3]
      simp only [infix_Linked.j1]
      rw [if_neg (by decide), if_neg c3]
      simp only [infix_Linked.j2]
      rw [if_neg (by decide), if_neg c3, hgo]
      exact ⟨b, rfl, hyes ⟨by omega, by omega, fun h => by omega⟩⟩

/-- infix.Linked -/
theorem P.linked_f (l a : List Int) (hl : l.length ≤ 210) (ha : a.length ≤ 100000) (k : Nat) (hk : 4 * a.length + 1 < k) : ∃ b, infix_Linked.f k l a = some b ∧ (b = true ↔ ∀ j : Nat, j < a.length → S.LinkAt l a j) := by
  obtain ⟨b, hb, hbi⟩ := P.linked_l0 l a hl ha a.length k 0 (-1) rfl (by omega) hk (fun h => by omega) (fun _ => rfl)
  exact ⟨b, hb, hbi.trans ⟨fun h j hj => h j (by omega) hj, fun h j _ hj => h j hj⟩⟩

/-- One number of some directly follows another one. -/
def S.Next (a : List Int) (c d : Int) : Prop := c ∈ a ∧ d ∈ a ∧ c < d ∧ ∀ x ∈ a, ¬(c < x ∧ x < d)
theorem S.next_of {a : List Int} (h : S.Up a) {i : Nat} (hi : i + 1 < a.length) : S.Next a (rd a i) (rd a ((i + 1 : Nat) : Int)) := by
  refine ⟨S.rd_mem (by omega) (by omega), S.rd_mem (by omega) (by omega), S.up_rd h (by omega) hi, fun x hx hlt => ?_⟩
  obtain ⟨j, hj, rfl⟩ := List.mem_iff_getElem.1 hx
  rw [← rd_get hj] at hlt
  rcases Nat.lt_or_ge i j with h1 | h1
  · rcases Nat.lt_or_ge (i + 1) j with h2 | h2
    · have := S.up_rd h h2 hj; omega
    · have : j = i + 1 := by omega
      subst this; omega
  · rcases Nat.lt_or_ge j i with h2 | h2
    · have := S.up_rd h h2 (by omega); omega
    · have : j = i := by omega
      subst this; omega
theorem S.linked_of {l a : List Int} (hup : S.Up a) (hr : ∀ x ∈ a, 0 ≤ x ∧ x < l.length) (hm : S.mayB l = true) (hs : ∀ c d, S.Next a c d → S.Step l c d) : ∀ j : Nat, j < a.length → S.LinkAt l a j := by
  intro j hj
  have h1 := hr _ (S.rd_mem (a := a) (i := j) (by omega) (by omega))
  refine ⟨h1.1, h1.2, fun h0 => ?_⟩
  obtain ⟨i, rfl⟩ : ∃ i, j = i + 1 := ⟨j - 1, by omega⟩
  have hn := S.next_of hup hj
  rw [show ((i + 1 : Nat) : Int) - 1 = (i : Int) from by omega]
  exact ⟨hn.2.2.1, hm, hs _ _ hn⟩
theorem P.linked_true (l a : List Int) (hl : l.length ≤ 210) (ha : a.length ≤ 100000) (k : Nat) (hk : 4 * a.length + 1 < k) (hup : S.Up a) (hr : ∀ x ∈ a, 0 ≤ x ∧ x < l.length) (hm : S.mayB l = true) (hs : ∀ c d, S.Next a c d → S.Step l c d) : infix_Linked.f k l a = some true := by
  obtain ⟨b, hb, hbi⟩ := P.linked_f l a hl ha k hk
  rw [hb, hbi.2 (S.linked_of hup hr hm hs)]

/-- Between two places of a way, of which one directly follows the other, all is lower. -/
theorem S.way_gap {l : List Int} {hi lo c d : Int} (h0 : 0 ≤ lo) (h1 : hi < l.length) (hn : S.Next (S.wayL l hi lo) c d) : lo ≤ c ∧ 0 ≤ rd l c ∧ ∀ z : Int, c < z → z < d → rd l z < rd l c := by
  obtain ⟨hc, hd, hlt, hno⟩ := hn
  have hd' : d ≤ hi := by
    rcases (S.wayL_mem h0 h1).1 hd with h | h <;> omega
  rcases (S.wayL_mem h0 h1).1 hc with h | ⟨a1, a2, a3, a4⟩
  · omega
  · refine ⟨a1, a3, ?_⟩
    have key : ∀ (n : Nat) (z : Int), z - c = n + 1 → z < d → rd l z < rd l c := by
      intro n
      induction n using Nat.strongRecOn with
      | ind n ih =>
        intro z hz hzd
        by_cases hlt' : rd l z < rd l c
        · exact hlt'
        · exfalso
          refine hno z ((S.wayL_mem h0 h1).2 (.inr ⟨by omega, by omega, by omega, fun y y1 y2 => ?_⟩)) ⟨by omega, hzd⟩
          rcases Int.lt_or_le y c with h | h
          · have := a4 y y1 h; omega
          · rcases Int.lt_or_le c y with h' | h'
            · have := ih (y - c - 1).toNat (by omega) y (by omega) (by omega); omega
            · have : y = c := by omega
              subst this; omega
    exact fun z z1 z2 => key (z - c - 1).toNat z (by omega) z2
theorem S.step_of_gap {l : List Int} (hm : S.mayB l = true) {c d : Int} (hc : 0 ≤ c) (hd : d < l.length) (hlt : c < d) (h : ∀ z : Int, c < z → z < d → rd l z < rd l c) : S.Step l c d := by
  by_cases e : d = c + 1
  · exact .inl e
  · have h1 := h (c + 1) (by omega) (by omega)
    have h2 := ((S.mayB_parts hm).2.2.2 (c + 1) (by omega) (by omega)).1
    exact .inr ⟨by omega, h⟩
theorem S.wayL_range {l : List Int} {hi lo : Int} (h0 : 0 ≤ lo) (h1 : hi < l.length) (h2 : lo ≤ hi) : ∀ x ∈ S.wayL l hi lo, lo ≤ x ∧ x ≤ hi := fun x hx => by
  rcases (S.wayL_mem h0 h1).1 hx with h | h <;> omega
theorem S.way_step_of {l : List Int} (hm : S.mayB l = true) {hi lo c d : Int} (h0 : 0 ≤ lo) (h1 : hi < l.length) (h2 : lo ≤ hi) (hn : S.Next (S.wayL l hi lo) c d) : S.Step l c d := by
  obtain ⟨g1, g2, g3⟩ := S.way_gap h0 h1 hn
  have := S.wayL_range h0 h1 h2 d hn.2.1
  exact S.step_of_gap hm (by omega) (by omega) hn.2.2.1 g3
theorem S.wayL_lo {l : List Int} (hm : S.mayB l = true) {hi lo : Int} (h0 : 0 ≤ lo) (h1 : hi < l.length) (h2 : lo ≤ hi) : lo ∈ S.wayL l hi lo := by
  rw [S.wayL_mem h0 h1]
  by_cases e : lo = hi
  · exact .inl e
  · exact .inr ⟨Int.le_refl _, by omega, ((S.mayB_parts hm).2.2.2 lo h0 (by omega)).1, fun y y1 y2 => by omega⟩
theorem S.wayL_hi {l : List Int} {hi lo : Int} (h0 : 0 ≤ lo) (h1 : hi < l.length) : hi ∈ S.wayL l hi lo := (S.wayL_mem h0 h1).2 (.inl rfl)
/-- Of rising places the last one is none below any. -/
theorem S.up_last {a : List Int} (h : S.Up a) {x : Int} (hx : x ∈ a) : x ≤ rd a ((a.length : Int) - 1) := by
  obtain ⟨j, hj, rfl⟩ := List.mem_iff_getElem.1 hx
  rw [← rd_get hj, show (a.length : Int) - 1 = ((a.length - 1 : Nat) : Int) from by omega]
  rcases Nat.lt_or_ge j (a.length - 1) with h1 | h1
  · exact Int.le_of_lt (S.up_rd h h1 (by omega))
  · have : j = a.length - 1 := by omega
    subst this; exact Int.le_refl _
theorem S.follow_ok {l : List Int} {hi lo : Int} (h : S.mayB l = true ∧ 0 ≤ lo ∧ lo ≤ hi ∧ hi < l.length) : S.followZ l hi lo = (S.wayL l hi lo, true) := by unfold S.followZ; rw [if_pos h]
theorem S.follow_bad {l : List Int} {hi lo : Int} (h : ¬(S.mayB l = true ∧ 0 ≤ lo ∧ lo ≤ hi ∧ hi < l.length)) : S.followZ l hi lo = ([], false) := by unfold S.followZ; rw [if_neg h]

/-- The chapter's example. -/
theorem P.awake16 (k : Nat) (hk : 400 < k) : stepladderlaw16_awake.f k = some true := by
  have hm : S.mayB [31, 0, 1, 0, 0] = true := by decide +kernel
  have hw : S.wayL [31, 0, 1, 0, 0] 4 1 = [1, 2, 4] := by decide +kernel
  have hf : S.followZ [31, 0, 1, 0, 0] 4 1 = ([1, 2, 4], true) := by rw [S.follow_ok ⟨hm, by decide, by decide, by decide⟩, hw]
  have hl1 : infix_Linked.f k [31, 0, 1, 0, 0] [1, 2, 4] = some true := by
    rw [← hw]
    refine P.linked_true _ _ (by decide) (by rw [hw]; decide) k (by rw [hw]; simp; omega) (S.wayL_up _ _ _) (fun x hx => ?_) hm (fun c d hn => S.way_step_of hm (by decide) (by decide) (by decide) hn)
    have := S.wayL_range (l := [31, 0, 1, 0, 0]) (hi := 4) (lo := 1) (by decide) (by decide) (by decide) x hx
    simp; omega
  have hl2 : infix_Linked.f k [31, 0, 1, 0, 0] [1, 4] = some false := by
    obtain ⟨b, hb, hbi⟩ := P.linked_f [31, 0, 1, 0, 0] [1, 4] (by decide) (by decide) k (by simp; omega)
    rw [hb]
    congr 1
    rw [← Bool.not_eq_true, hbi]
    intro h
    have := (h 1 (by decide)).2.2 (by decide)
    rcases this.2.2 with e | ⟨e, _⟩
    · revert e; decide +kernel
    · revert e; decide +kernel
  have hb : S.bothL [1, 2, 4] [1, 2, 4] = [1, 2, 4] := S.up_ext (S.both_up _ _) (by decide) fun x => by rw [S.both_mem]; simp
  have hbk : S.backZ [31, 0, 1, 0, 0] 4 1 = 2 := by decide +kernel
  unfold stepladderlaw16_awake.f
  simp only [Option.bind_some]
  rw [P.follow_f, hf]
  simp only [Option.bind_some, if_true]
  rw [P.ints _ _ (by decide) k (by simp; omega)]
  simp only [Option.bind_some, decide_true, if_true]
  rw [P.back_f _ _ _ k (by omega), hbk]
  simp only [Option.bind_some, if_true]
  rw [hl1]
  simp only [Option.bind_some, if_true]
  rw [hl2]
  simp only [Option.bind_some, Bool.false_eq_true, if_false]
  rw [P.both_f _ _ (by decide), hb]
  rfl

end Go.Proofs.Ytgjkjndfnjabeaa.X
