/- What the document's answers for what is taken come to, as the print has them. -/
import Derived.Test.YteekdggainficaaMPW
namespace Go.Proofs.Yteekdggainficaa.X
open Go.RowKit Go.Proofs.YteekdggainficaaW.PrintWords

theorem P.r14_from_f (l : List Int) (m k2 n : Int) (hl : l.length ≤ 210) (hn : -9223372036854775808 ≤ n) (k : Nat) (hk : 301 < k) : stepladderref14_From.f k l m k2 n = some (S.fromZ l m k2 n) := by
  obtain ⟨k, rfl⟩ : ∃ m, k = m + 1 := ⟨k - 1, by omega⟩
  have hj : S.okB l m k2 = false → stepladderref14_From.j0 (k + 1) l m k2 n true = some (S.fromZ l m k2 n) := fun h => by
    simp only [stepladderref14_From.j0]
    rw [if_pos trivial, S.fromZ_bad h]
  have hno : ¬(S.mayB l = true ∧ 1 ≤ m ∧ 1 ≤ k2 ∧ k2 < (l.length : Int)) → S.okB l m k2 = false := fun h => by
    cases e : S.okB l m k2 with
    | false => rfl
    | true => exact absurd (S.okB_iff.1 e) h
  unfold stepladderref14_From.f
  rw [P.r14_may l hl _ (by omega)]
  simp only [Option.bind_some]
  cases hm : S.mayB l with
  | false => rw [if_neg (by decide)]; exact hj (hno fun h => by rw [hm] at h; exact absurd h.1 (by decide))
  | true =>
    rw [if_pos rfl]
    by_cases h1 : m < 1
    · rw [if_pos h1]; exact hj (hno fun h => by omega)
    rw [if_neg h1]
    by_cases h2 : k2 < 1
    · rw [if_pos h2]; exact hj (hno fun h => by omega)
    rw [if_neg h2]
    by_cases h3 : (l.length : Int) ≤ k2
    · rw [decide_eq_true h3]; exact hj (hno fun h => by omega)
    rw [decide_eq_false h3]
    have hok : S.okB l m k2 = true := S.okB_iff.2 ⟨hm, by omega, by omega, by omega⟩
    simp only [stepladderref14_From.j0]
    rw [if_neg (by decide)]
    unfold S.fromZ
    rw [if_pos hok]
    by_cases h4 : n > 31
    · rw [if_pos h4, if_pos (by omega)]
    rw [if_neg h4, if_neg (by omega), E.wrap_id (x := (l.length : Int) - k2) (by omega) (by omega), E.wrap_id (x := n + 1) (by omega) (by omega), P.r14_up l _ _ _ (by omega) k (by omega)]
    simp only [Option.bind_some]
    have hlen := S.upZ_len l 0 ((l.length : Int) - k2) (n + 1)
    unfold S.mthLast
    generalize S.upZ l 0 ((l.length : Int) - k2) (n + 1) = u at hlen ⊢
    by_cases h5 : (u.length : Int) < m
    · rw [if_pos h5, if_neg (by omega)]
    rw [if_neg h5, E.wrap_id (x := (u.length : Int) - m) (by omega) (by omega), if_pos (by omega), if_pos (by omega), if_pos (by omega)]

def S.tkTo (l : List Int) (m k : Int) (i : Nat) : List Int := ((List.range i).filter fun j : Nat => decide (S.fromZ l m k (rd l (j : Int)) ≤ (j : Int))).map fun j : Nat => (j : Int)
theorem S.tkTo_succ (l : List Int) (m k : Int) (i : Nat) : S.tkTo l m k (i + 1) = if S.fromZ l m k (rd l (i : Int)) ≤ (i : Int) then S.tkTo l m k i ++ [(i : Int)] else S.tkTo l m k i := by
  unfold S.tkTo
  rw [List.range_succ, List.filter_append, List.map_append]
  split <;> rename_i h
  · rw [List.filter_cons_of_pos (p := fun j : Nat => decide (S.fromZ l m k (rd l (j : Int)) ≤ (j : Int))) (decide_eq_true h), List.filter_nil]; rfl
  · rw [List.filter_cons_of_neg (p := fun j : Nat => decide (S.fromZ l m k (rd l (j : Int)) ≤ (j : Int))) (by rw [decide_eq_true_eq]; exact h), List.filter_nil, List.map_nil, List.append_nil]
theorem S.tkTo_len (l : List Int) (m k : Int) (i : Nat) : (S.tkTo l m k i).length ≤ i := by
  unfold S.tkTo
  rw [List.length_map]
  have := List.length_filter_le (fun j : Nat => decide (S.fromZ l m k (rd l (j : Int)) ≤ (j : Int))) (List.range i)
  rwa [List.length_range] at this
theorem S.tkTo_is {l : List Int} {m k : Int} (h : S.okB l m k = true) : S.tkTo l m k ((l.length : Int) - k).toNat = S.takenL l m k := by
  obtain ⟨h0, h1, h2, h3⟩ := S.okB_parts h
  obtain ⟨_, _, _, h7⟩ := S.mayB_parts h0
  refine S.up_ext ?_ (S.takenL_up _ _ _) fun x => ?_
  · unfold S.tkTo
    exact List.Pairwise.map _ (fun a b h => Int.ofNat_lt.2 h) (List.Pairwise.filter _ List.pairwise_lt_range)
  · rw [S.takenL_mem]
    unfold S.tkTo
    rw [List.mem_map]
    constructor
    · rintro ⟨j, hj, rfl⟩
      rw [List.mem_filter, List.mem_range, decide_eq_true_eq] at hj
      exact ⟨by omega, by omega, by omega, (h7 j (by omega) (by omega)).1, hj.2⟩
    · rintro ⟨a, b, c, d, e⟩
      obtain ⟨j, rfl⟩ : ∃ j : Nat, x = j := ⟨x.toNat, by omega⟩
      refine ⟨j, ?_, rfl⟩
      rw [List.mem_filter, List.mem_range, decide_eq_true_eq]
      exact ⟨by omega, e⟩
theorem P.r14_prefix_l0 (l : List Int) (m : Int) (k2 : Int) (hl : l.length ≤ 210) (hok : S.okB l m k2 = true) (n : Nat) (hn : (l.length : Int) - k2 = n) (d : Nat) : ∀ (k i : Nat), n - i = d → i ≤ n → 400 + d < k →
    stepladderref14_Prefix.l0 k l m k2 (S.tkTo l m k2 i) i = some (S.tkTo l m k2 n, true) := by
  obtain ⟨h0, h1, h2, h3⟩ := S.okB_parts hok
  obtain ⟨_, _, _, h7⟩ := S.mayB_parts h0
  induction d with
  | zero =>
    intro k i hd hi hk
    obtain ⟨k, rfl⟩ : ∃ m, k = m + 1 := ⟨k - 1, by omega⟩
    obtain rfl : i = n := by omega
    simp only [stepladderref14_Prefix.l0]
    rw [E.wrap_id (x := (l.length : Int) - k2) (by omega) (by omega), if_neg (by omega)]
  | succ d ih =>
    intro k i hd hi hk
    obtain ⟨k, rfl⟩ : ∃ m, k = m + 1 := ⟨k - 1, by omega⟩
    have hlen := S.tkTo_len l m k2 i
    have hlv := h7 i (by omega) (by omega)
    have ih := ih k (i + 1) (by omega) (by omega) (by omega)
    rw [S.tkTo_succ] at ih
    simp only [stepladderref14_Prefix.l0]
    rw [E.wrap_id (x := (l.length : Int) - k2) (by omega) (by omega), if_pos (by omega), if_pos (by omega), if_pos (by omega), P.r14_from_f l m k2 _ hl (by omega) k (by omega)]
    simp only [Option.bind_some]
    rw [P.nx (by omega)]
    by_cases c : S.fromZ l m k2 (rd l (i : Int)) ≤ (i : Int)
    · rw [if_pos c] at ih
      rw [if_pos (by omega), if_pos (by omega)]
      exact ih
    · rw [if_neg c] at ih
      rw [if_neg (by omega)]
      exact ih
theorem P.r14_prefix_f (l : List Int) (m k2 : Int) (hl : l.length ≤ 210) (k : Nat) (hk : 1000 < k) : stepladderref14_Prefix.f k l m k2 = some (S.prefZ l m k2) := by
  unfold stepladderref14_Prefix.f
  rw [P.r14_from_f l m k2 0 hl (by omega) k (by omega)]
  simp only [Option.bind_some]
  cases hok : S.okB l m k2 with
  | false => rw [S.fromZ_bad hok, if_pos (by omega), S.prefZ_bad hok]
  | true =>
    have h := S.fromZ_range (n := 0) hok
    obtain ⟨h0, h1, h2, h3⟩ := S.okB_parts hok
    rw [if_neg (by omega), S.prefZ_ok hok, ← S.tkTo_is hok]
    exact P.r14_prefix_l0 l m k2 hl hok ((l.length : Int) - k2).toNat (by omega) _ k 0 rfl (by omega) (by omega)

/-! ### velvet's -/
theorem P.r21_prefix_l2 (at_ T : List Int) (hT : ∀ x ∈ T, 0 ≤ x ∧ x < at_.length) (hTl : T.length ≤ 1000) (d : Nat) : ∀ (k j : Nat), T.length - j = d → j ≤ T.length → d < k →
    stepladderref21_Prefix.l2 k at_ T ((T.take j).map fun x => rd at_ x) j = some (T.map fun x => rd at_ x, true) := by
  induction d with
  | zero =>
    intro k j hd hj hk
    obtain ⟨k, rfl⟩ : ∃ m, k = m + 1 := ⟨k - 1, by omega⟩
    simp only [stepladderref21_Prefix.l2]
    rw [if_neg (by omega), List.take_of_length_le (by omega)]
  | succ d ih =>
    intro k j hd hj hk
    obtain ⟨k, rfl⟩ : ∃ m, k = m + 1 := ⟨k - 1, by omega⟩
    have hjT : j < T.length := by omega
    have hb := hT T[j] (List.getElem_mem hjT)
    have ih := ih k (j + 1) (by omega) (by omega) (by omega)
    rw [List.take_succ_eq_append_getElem hjT, List.map_append] at ih
    simp only [stepladderref21_Prefix.l2]
    rw [if_pos (by omega), if_pos (by omega), rd_get hjT, if_pos hb.1, if_pos hb.2, if_pos (by simp; omega), P.nx (by omega)]
    exact ih
theorem P.r21_prefix_l1 (at_ lv : List Int) (m : Int) (k2 : Nat) (hk2 : k2 ≤ 210) (hlv : lv.length ≤ 210) (r : List Int × Bool) (B : Nat) (H : ∀ k, B ≤ k → ((stepladderref14_Prefix.f k (lv ++ List.replicate k2 0) m k2).bind fun bt => stepladderref21_Prefix.l2 k at_ bt.1 ([] : List Int) 0) = some r) (d : Nat) : ∀ (k j : Nat), k2 - j = d → j ≤ k2 → B + d < k →
    stepladderref21_Prefix.l1 k m k2 at_ (lv ++ List.replicate j 0) j = some r := by
  induction d with
  | zero =>
    intro k j hd hj hk
    obtain ⟨k, rfl⟩ : ∃ m, k = m + 1 := ⟨k - 1, by omega⟩
    obtain rfl : j = k2 := by omega
    simp only [stepladderref21_Prefix.l1]
    rw [if_neg (by omega)]
    exact H k (by omega)
  | succ d ih =>
    intro k j hd hj hk
    obtain ⟨k, rfl⟩ : ∃ m, k = m + 1 := ⟨k - 1, by omega⟩
    have ih := ih k (j + 1) (by omega) (by omega) (by omega)
    rw [List.replicate_succ', ← List.append_assoc] at ih
    simp only [stepladderref21_Prefix.l1]
    rw [if_pos (by omega), if_pos (by simp; omega), P.nx (by omega)]
    exact ih
theorem P.r21_prefix_l0 (l : List S36) (hl : l.length ≤ 210) (m : Int) (k2 n : Nat) (hn : n + k2 = l.length) (s : List Bool) (hs : s = V.smoothZ l) (hsl : s.length = l.length) (r : List Int × Bool) (B : Nat) (H : ∀ k, B ≤ k → stepladderref21_Prefix.l1 k m k2 (V.atTo l n) (V.lev (V.smo l n)) 0 = some r) (d : Nat) : ∀ (k i : Nat), n - i = d → i ≤ n → B + d < k →
    stepladderref21_Prefix.l0 k l m k2 s (V.atTo l i) (V.lev (V.smo l i)) i = some r := by
  induction d with
  | zero =>
    intro k i hd hi hk
    obtain ⟨k, rfl⟩ : ∃ m, k = m + 1 := ⟨k - 1, by omega⟩
    obtain rfl : i = n := by omega
    simp only [stepladderref21_Prefix.l0]
    rw [E.wrap_id (x := (l.length : Int) - k2) (by omega) (by omega), if_neg (by omega)]
    exact H k (by omega)
  | succ d ih =>
    intro k i hd hi hk
    obtain ⟨k, rfl⟩ : ∃ m, k = m + 1 := ⟨k - 1, by omega⟩
    have hlen := V.atTo_len l i
    have hlen2 : (V.lev (V.smo l i)).length ≤ i := by unfold V.lev V.smo; rw [List.length_map, List.length_map]; exact hlen
    have ih := ih k (i + 1) (by omega) (by omega) (by omega)
    rw [V.atTo_succ, V.smo_succ] at ih
    simp only [stepladderref21_Prefix.l0]
    rw [E.wrap_id (x := (l.length : Int) - k2) (by omega) (by omega), if_pos (by omega), if_pos (by omega), if_pos (by omega), P.rdB, P.rdT, P.nx (by omega), hs]
    subst hs
    cases h : (V.smoothZ l).getD i false with
    | true =>
      rw [h, if_pos rfl, if_pos rfl] at ih
      rw [if_pos rfl, if_pos (by omega), if_pos (by omega), if_pos (by omega)]
      unfold V.lev at ih ⊢
      rw [List.map_append] at ih
      exact ih
    | false =>
      rw [h, if_neg (by decide), if_neg (by decide)] at ih
      rw [if_neg (by decide)]
      exact ih
theorem P.r21_prefix_f (l : List S36) (m k2 : Int) (hl : l.length ≤ 210) (hc : ∀ j < l.length, (l.getD j z36).f2.length ≤ 40) (k : Nat) (hk : 20000 < k) : stepladderref21_Prefix.f k l m k2 = some (V.prefZ l m k2) := by
  obtain ⟨k, rfl⟩ : ∃ m, k = m + 1 := ⟨k - 1, by omega⟩
  have hj : ¬(V.mayV l = true ∧ 1 ≤ m ∧ 1 ≤ k2 ∧ k2 < l.length) → stepladderref21_Prefix.j0 (k + 1) l m k2 true = some (V.prefZ l m k2) := fun h => by
    simp only [stepladderref21_Prefix.j0]
    rw [if_pos trivial]
    unfold V.prefZ
    rw [if_neg h]
  unfold stepladderref21_Prefix.f
  rw [P.r21_may_f l hl _ (by omega)]
  simp only [Option.bind_some]
  cases hm : V.mayV l with
  | false => rw [if_neg (by decide)]; exact hj (fun h => by rw [hm] at h; exact absurd h.1 (by decide))
  | true =>
    rw [if_pos rfl]
    by_cases h1 : m < 1
    · rw [if_pos h1]; exact hj (fun h => by omega)
    rw [if_neg h1]
    by_cases h2 : k2 < 1
    · rw [if_pos h2]; exact hj (fun h => by omega)
    rw [if_neg h2]
    by_cases h3 : (l.length : Int) ≤ k2
    · rw [decide_eq_true h3]; exact hj (fun h => by omega)
    rw [decide_eq_false h3]
    obtain ⟨q, rfl⟩ : ∃ q : Nat, k2 = q := ⟨k2.toNat, by omega⟩
    have hlen := V.atTo_len l (l.length - q)
    have hll : (V.lev (V.smo l (l.length - q))).length = (V.atTo l (l.length - q)).length := by unfold V.lev V.smo; rw [List.length_map, List.length_map]
    simp only [stepladderref21_Prefix.j0]
    rw [if_neg (by decide), P.r21_smooth_f l hl hc k (by omega)]
    simp only [Option.bind_some]
    refine P.r21_prefix_l0 l hl m q (l.length - q) (by omega) _ rfl ((V.smoothZ_len l).2 hm) _ 4000 (fun k hk => ?_) _ k 0 rfl (by omega) (by omega)
    have h4 := P.r21_prefix_l1 (V.atTo l (l.length - q)) (V.lev (V.smo l (l.length - q))) m q (by omega) (by omega) (V.prefZ l m q) 3000 (fun k hk => ?_) q k 0 (by omega) (by omega) (by omega)
    · rw [show List.replicate 0 (0 : Int) = [] from rfl, List.append_nil] at h4
      exact h4
    · rw [P.r14_prefix_f _ m q (by rw [List.length_append, List.length_replicate]; omega) k (by omega)]
      simp only [Option.bind_some]
      rw [V.prefZ_is hm (by omega) (by omega) (by omega), Int.toNat_natCast]
      have hT := fun x hx => V.taken_lt (L := V.lev (V.smo l (l.length - q)) ++ List.replicate q 0) (m := m) (k := (q : Int)) (x := x) hx
      have hTl := V.taken_len (V.lev (V.smo l (l.length - q)) ++ List.replicate q 0) m q
      rw [List.length_append, List.length_replicate] at hTl
      have h5 := P.r21_prefix_l2 (V.atTo l (l.length - q)) (S.prefZ (V.lev (V.smo l (l.length - q)) ++ List.replicate q 0) m q).1 (fun x hx => by have := hT x hx; rw [List.length_append, List.length_replicate] at this; omega) (by omega) _ k 0 rfl (by omega) (by omega)
      rw [List.take_zero] at h5
      exact h5

end Go.Proofs.Yteekdggainficaa.X
