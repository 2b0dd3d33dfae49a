/- GoodTells: any levels are fair, and good, or not, and any places are as many, as the document says. For every input. -/
import Derived.Test.YtfbhgbnpppbiiaaPB
import Derived.Test.YtfbhgbnpppbiiaaXstepladderlaw15GoodTells
namespace Go.Proofs.Ytfbhgbnpppbiiaa.Pure
open Go.RowKit Go.Proofs.Ytfbhgbnpppbiiaa.X Go.Proofs.YtfbhgbnpppbiiaaW.PrintWords Go.Proofs.YtfbhgbnpppbiiaaW.PrintLast

theorem GoodTells.next {i : Nat} (hi : i ≤ 1000000) : wrap64 ((i : Int) + 1) = ((i + 1 : Nat) : Int) := by rw [E.wrap_id (by omega) (by omega)]; omega

theorem GoodTells.may_l0 (l : List Int) (hl : l.length ≤ 1000000) (d : Nat) : ∀ (k i : Nat), l.length - i = d → i ≤ l.length → d < k → stepladderref14_May.l0 k l i = some (!(l.drop i).any S.oddB) := by
  induction d with
  | zero =>
    intro k i hd hi hk
    obtain ⟨k, rfl⟩ : ∃ m, k = m + 1 := ⟨k - 1, by omega⟩
    simp only [stepladderref14_May.l0]
    rw [if_neg (by omega), List.drop_of_length_le (by omega)]
    rfl
  | succ d ih =>
    intro k i hd hi hk
    obtain ⟨k, rfl⟩ : ∃ m, k = m + 1 := ⟨k - 1, by omega⟩
    have h1 : i < l.length := by omega
    simp only [stepladderref14_May.l0]
    rw [if_pos (by omega), if_pos (by omega), rd_get h1, List.drop_eq_getElem_cons h1, List.any_cons]
    by_cases ha : l[i] < 0
    · rw [if_pos ha, show S.oddB l[i] = true from decide_eq_true (by omega)]
      rfl
    · rw [if_neg ha]
      by_cases hb : l[i] > 31
      · rw [if_pos hb, show S.oddB l[i] = true from decide_eq_true (by omega)]
        rfl
      · rw [if_neg hb, GoodTells.next (by omega), ih k (i + 1) (by omega) (by omega) (by omega), show S.oddB l[i] = false from decide_eq_false (by omega)]
        rfl

theorem GoodTells.may (l : List Int) (hl : l.length ≤ 210) (k : Nat) (hk : 300 < k) : stepladderref14_May.f k l = some (S.mayB l) := by
  obtain ⟨k, rfl⟩ : ∃ m, k = m + 1 := ⟨k - 1, by omega⟩
  have hj : stepladderref14_May.j0 (k + 1) l true = some false := by simp only [stepladderref14_May.j0, if_true]
  unfold stepladderref14_May.f S.mayB
  by_cases h1 : (l.length : Int) < 1
  · rw [if_pos h1, hj, decide_eq_false (p := 0 < l.length) (by omega)]
    rfl
  rw [if_neg h1]
  by_cases h2 : (l.length : Int) > 200
  · rw [if_pos h2, hj, decide_eq_true (p := 0 < l.length) (by omega), decide_eq_false (p := l.length ≤ 200) (by omega)]
    rfl
  rw [if_neg h2, if_pos (by omega), decide_eq_true (p := 0 < l.length) (by omega), decide_eq_true (p := l.length ≤ 200) (by omega)]
  by_cases h3 : rd l 0 = 31
  · have := GoodTells.may_l0 l (by omega) l.length k 0 (by omega) (by omega) (by omega)
    rw [show ((0 : Nat) : Int) = 0 from rfl] at this
    rw [show (rd l 0 != 31) = false from by simp [h3], decide_eq_true h3]
    simp only [stepladderref14_May.j0]
    rw [if_neg (by decide), this]
    simp
  · rw [show (rd l 0 != 31) = true from by simpa using h3, hj, decide_eq_false h3]
    rfl

theorem GoodTells.up_l0 (l : List Int) (fr hi n : Int) (hl : l.length ≤ 1000000) (d : Nat) : ∀ (k i : Nat) (acc : List Int), l.length - i = d → i ≤ l.length → acc.length ≤ i → d < k →
    stepladderref14_Up.l0 k l fr hi n acc i = some (acc ++ S.upFrom (l.drop i) i fr hi n) := by
  induction d with
  | zero =>
    intro k i acc hd hi' hacc hk
    obtain ⟨k, rfl⟩ : ∃ m, k = m + 1 := ⟨k - 1, by omega⟩
    simp only [stepladderref14_Up.l0]
    rw [if_neg (by omega), List.drop_of_length_le (by omega)]
    simp [S.upFrom]
  | succ d ih =>
    intro k i acc hd hi' hacc hk
    obtain ⟨k, rfl⟩ : ∃ m, k = m + 1 := ⟨k - 1, by omega⟩
    have h1 : i < l.length := by omega
    have hs : ¬(fr ≤ (i : Int) ∧ (i : Int) < hi ∧ n ≤ l[i]) → stepladderref14_Up.l0 k l fr hi n acc (wrap64 ((i : Int) + 1)) = some (acc ++ S.upFrom (l.drop i) i fr hi n) := fun h => by
      rw [GoodTells.next (by omega), ih k (i + 1) acc (by omega) (by omega) (by omega) (by omega), List.drop_eq_getElem_cons h1]
      conv => rhs; unfold S.upFrom
      rw [if_neg h]
      rfl
    simp only [stepladderref14_Up.l0]
    rw [if_pos (by omega), rd_get h1]
    by_cases c1 : (i : Int) ≥ fr
    · rw [if_pos c1]
      by_cases c2 : (i : Int) < hi
      · rw [if_pos c2, if_pos (by omega)]
        by_cases c3 : l[i] ≥ n
        · rw [if_pos c3, if_pos (by omega), GoodTells.next (by omega), ih k (i + 1) _ (by omega) (by omega) (by simp; omega) (by omega), List.drop_eq_getElem_cons h1]
          conv => rhs; unfold S.upFrom
          rw [if_pos ⟨c1, c2, c3⟩]
          simp
        · rw [if_neg c3, hs (fun h => c3 h.2.2)]
      · rw [if_neg c2, hs (fun h => c2 h.2.1)]
    · rw [if_neg c1, hs (fun h => c1 h.1)]

theorem GoodTells.count (l : List Int) (i n : Int) (hl : l.length ≤ 210) (k : Nat) (hk : 300 < k) : stepladderref15_Count.f k l i n = some (S.cntZ l i n) := by
  have := GoodTells.up_l0 l i l.length n (by omega) l.length k 0 [] (by omega) (by omega) (by simp) (by omega)
  rw [show ((0 : Nat) : Int) = 0 from rfl] at this
  unfold stepladderref15_Count.f stepladderref14_Up.f
  rw [this]
  simp [S.cntZ, S.upZ]

theorem GoodTells.cnt_le (l : List Int) (i n : Int) : S.cntZ l i n ≤ l.length := by
  have := S.upZ_len l i l.length n
  unfold S.cntZ
  omega

theorem GoodTells.fair_l1 (l : List Int) (n m B : Int) (hl : l.length ≤ 210) (hB0 : 0 ≤ B) (hB : B ≤ 4294967296) (d : Nat) : ∀ (k i : Nat), l.length - i = d → i ≤ l.length → d + 300 < k →
    ∃ b, stepladderref15_Fair.l1 k l n m B i = some b ∧ (b = true ↔ ∀ x : Int, (i : Int) ≤ x → x < l.length → n ≤ rd l x → m ≤ S.cntZ l x n → (l.length : Int) - x < S.cntZ l x n * B) := by
  induction d with
  | zero =>
    intro k i hd hi hk
    obtain ⟨k, rfl⟩ : ∃ m, k = m + 1 := ⟨k - 1, by omega⟩
    simp only [stepladderref15_Fair.l1]
    rw [if_neg (by omega)]
    exact ⟨true, rfl, fun _ x h1 h2 => by omega, fun _ => rfl⟩
  | succ d ih =>
    intro k i hd hi hk
    obtain ⟨k, rfl⟩ : ∃ m, k = m + 1 := ⟨k - 1, by omega⟩
    obtain ⟨b, hb, hbi⟩ := ih k (i + 1) (by omega) (by omega) (by omega)
    simp only [stepladderref15_Fair.l1]
    rw [if_pos (by omega), GoodTells.count l i n (by omega) k (by omega)]
    simp only [Option.bind_some]
    have hgo : stepladderref15_Fair.l1 k l n m B (wrap64 ((i : Int) + 1)) = some b := by rw [GoodTells.next (by omega)]; exact hb
    have hc0 := S.cntZ_nonneg l i n
    have hc1 := GoodTells.cnt_le l i n
    have hm0 : 0 ≤ B * S.cntZ l i n := Int.mul_nonneg hB0 hc0
    have hm1 : B * S.cntZ l i n ≤ 4294967296 * 210 := Int.mul_le_mul hB (by omega) hc0 (by omega)
    rw [if_pos (by omega), hgo, E.wrap_id (x := B * S.cntZ l i n) (by omega) (by omega), E.wrap_id (x := (l.length : Int) - i) (by omega) (by omega)]
    have hnext : (n ≤ rd l i → m ≤ S.cntZ l i n → (l.length : Int) - i < S.cntZ l i n * B) → (b = true ↔ ∀ x : Int, (i : Int) ≤ x → x < l.length → n ≤ rd l x → m ≤ S.cntZ l x n → (l.length : Int) - x < S.cntZ l x n * B) := fun hi' => by
      rw [hbi]
      constructor
      · intro h x h1 h2 h3 h4
        by_cases e : x = i
        · subst e; exact hi' h3 h4
        · exact h x (by omega) h2 h3 h4
      · intro h x h1; exact h x (by omega)
    by_cases c1 : rd l i ≥ n
    · rw [if_pos c1]
      by_cases c2 : S.cntZ l i n ≥ m
      · rw [if_pos c2]
        by_cases c3 : B * S.cntZ l i n ≤ (l.length : Int) - i
        · rw [if_pos c3]
          refine ⟨false, rfl, fun e => (by cases e), fun h => ?_⟩
          have := h i (by omega) (by omega) c1 c2
          rw [Int.mul_comm] at this
          omega
        · rw [if_neg c3]
          exact ⟨b, rfl, hnext fun _ _ => by rw [Int.mul_comm]; omega⟩
      · rw [if_neg c2]
        exact ⟨b, rfl, hnext fun _ h => absurd h c2⟩
    · rw [if_neg c1]
      exact ⟨b, rfl, hnext fun h _ => absurd h c1⟩

theorem GoodTells.pow_bound {d : Nat} (h : d ≤ 32) : (1 : Int) ≤ 2 ^ d ∧ (2 : Int) ^ d ≤ 4294967296 := by
  have h2 : (2 : Nat) ^ d ≤ 2 ^ 32 := Nat.pow_le_pow_right (by omega) h
  have h1 : 1 ≤ (2 : Nat) ^ d := Nat.one_le_two_pow
  have h3 : ((2 : Int) ^ d) = ((2 ^ d : Nat) : Int) := by rw [Int.natCast_pow]; rfl
  rw [h3]
  exact ⟨Int.ofNat_le.2 h1, Int.ofNat_le.2 h2⟩

theorem GoodTells.fair_l0 (l : List Int) (n m : Int) (hl : l.length ≤ 210) (hn : n ≤ 31) (d : Nat) : ∀ (k j : Nat), (j : Int) + d = n → d + 600 < k →
    ∃ b, stepladderref15_Fair.l0 k l n m (2 ^ (j + 1)) j = some b ∧ (b = true ↔ ∀ x : Int, 0 ≤ x → x < l.length → n ≤ rd l x → m ≤ S.cntZ l x n → (l.length : Int) - x < S.cntZ l x n * 2 ^ (n + 1).toNat) := by
  induction d with
  | zero =>
    intro k j hj hk
    obtain ⟨k, rfl⟩ : ∃ m, k = m + 1 := ⟨k - 1, by omega⟩
    simp only [stepladderref15_Fair.l0]
    rw [if_neg (by omega)]
    have e : (n + 1).toNat = j + 1 := by omega
    have hp := GoodTells.pow_bound (d := j + 1) (by omega)
    rw [e]
    exact GoodTells.fair_l1 l n m (2 ^ (j + 1)) hl (by omega) hp.2 l.length k 0 (by omega) (by omega) (by omega)
  | succ d ih =>
    intro k j hj hk
    obtain ⟨k, rfl⟩ : ∃ m, k = m + 1 := ⟨k - 1, by omega⟩
    simp only [stepladderref15_Fair.l0]
    have hp := GoodTells.pow_bound (d := j + 1) (by omega)
    rw [if_pos (by omega), E.wrap_id (x := 2 * 2 ^ (j + 1)) (by omega) (by omega), E.wrap_id (x := (j : Int) + 1) (by omega) (by omega),
      show (2 : Int) * 2 ^ (j + 1) = 2 ^ (j + 1 + 1) from by rw [Int.pow_succ 2 (j + 1), Int.mul_comm], show (j : Int) + 1 = ((j + 1 : Nat) : Int) from by omega]
    exact ih k (j + 1) (by omega) (by omega)

theorem GoodTells.fair (l : List Int) (n m : Int) (hl : l.length ≤ 210) (k : Nat) (hk : 1000 < k) : stepladderref15_Fair.f k l n m = some (S.fairB l n m) := by
  obtain ⟨k, rfl⟩ : ∃ q, k = q + 1 := ⟨k - 1, by omega⟩
  have hj : stepladderref15_Fair.j0 (k + 1) l n m true = some false := by simp only [stepladderref15_Fair.j0, if_true]
  have hbad : ¬(S.mayB l = true ∧ 0 ≤ n ∧ n ≤ 31 ∧ 1 ≤ m) → some false = some (S.fairB l n m) := fun h => by
    congr 1
    symm
    rw [← Bool.not_eq_true, S.fairB_iff]
    exact fun h' => h ⟨h'.1, h'.2.1, h'.2.2.1, h'.2.2.2.1⟩
  unfold stepladderref15_Fair.f
  rw [GoodTells.may l hl (k + 1) (by omega)]
  simp only [Option.bind_some]
  by_cases hm : S.mayB l = true
  · rw [if_pos hm]
    by_cases h1 : n < 0
    · rw [if_pos h1, hj]; exact hbad (fun h => by have := h.2.1; omega)
    rw [if_neg h1]
    by_cases h2 : n > 31
    · rw [if_pos h2, hj]; exact hbad (fun h => by have := h.2.2.1; omega)
    rw [if_neg h2]
    by_cases h3 : m < 1
    · rw [decide_eq_true h3, hj]; exact hbad (fun h => by have := h.2.2.2; omega)
    rw [decide_eq_false h3]
    simp only [stepladderref15_Fair.j0]
    obtain ⟨b, hb, hbi⟩ := GoodTells.fair_l0 l n m hl (by omega) n.toNat k 0 (by omega) (by omega)
    rw [show (2 : Int) ^ (0 + 1) = 2 from rfl, show ((0 : Nat) : Int) = 0 from rfl] at hb
    rw [if_neg (by decide), hb]
    congr 1
    rw [Bool.eq_iff_iff, hbi, S.fairB_iff]
    exact ⟨fun h => ⟨hm, by omega, by omega, by omega, h⟩, fun h => h.2.2.2.2⟩
  · rw [if_neg hm, hj]
    exact hbad (fun h => hm h.1)

/-- A place of good's second loop. -/
abbrev GoodTells.at (l : List Int) (m n x : Int) : Prop := n + 1 ≤ rd l x → m ≤ S.cntZ l x (n + 1) → S.cntZ l x n < 4 * S.cntZ l x (n + 1)

theorem GoodTells.good_l1 (l : List Int) (m : Int) (n : Nat) (hn : n < 31) (hl : l.length ≤ 210) (K : Nat) (hK : 300 ≤ K) (P : Prop)
    (ht : ∀ k, K < k → ∃ b, stepladderref15_Good.l0 k l m ((n + 1 : Nat) : Int) = some b ∧ (b = true ↔ P)) (d : Nat) : ∀ (k i : Nat), l.length - i = d → i ≤ l.length → d + 1 + K < k →
    ∃ b, stepladderref15_Good.l1 k l m n i = some b ∧ (b = true ↔ (∀ x : Int, (i : Int) ≤ x → x < l.length → GoodTells.at l m n x) ∧ P) := by
  induction d with
  | zero =>
    intro k i hd hi hk
    obtain ⟨k, rfl⟩ : ∃ m, k = m + 1 := ⟨k - 1, by omega⟩
    simp only [stepladderref15_Good.l1]
    rw [if_neg (by omega), GoodTells.next (by omega)]
    obtain ⟨b, hb, hbi⟩ := ht k (by omega)
    exact ⟨b, hb, hbi.trans ⟨fun h => ⟨fun x h1 h2 => by omega, h⟩, fun h => h.2⟩⟩
  | succ d ih =>
    intro k i hd hi hk
    obtain ⟨k, rfl⟩ : ∃ m, k = m + 1 := ⟨k - 1, by omega⟩
    obtain ⟨b, hb, hbi⟩ := ih k (i + 1) (by omega) (by omega) (by omega)
    simp only [stepladderref15_Good.l1]
    rw [if_pos (by omega), E.wrap_id (x := (n : Int) + 1) (by omega) (by omega), GoodTells.count l i _ (by omega) k (by omega)]
    simp only [Option.bind_some]
    have hgo : stepladderref15_Good.l1 k l m n (wrap64 ((i : Int) + 1)) = some b := by rw [GoodTells.next (by omega)]; exact hb
    have hc0 := S.cntZ_nonneg l i ((n : Int) + 1)
    have hc1 := GoodTells.cnt_le l i ((n : Int) + 1)
    rw [if_pos (by omega), hgo]
    have hnext : GoodTells.at l m n i → (b = true ↔ (∀ x : Int, (i : Int) ≤ x → x < l.length → GoodTells.at l m n x) ∧ P) := fun hi' => by
      rw [hbi]
      refine and_congr ⟨fun h x h1 h2 => ?_, fun h x h1 => h x (by omega)⟩ Iff.rfl
      by_cases e : x = i
      · subst e; exact hi'
      · exact h x (by omega) h2
    by_cases c1 : rd l i > n
    · rw [if_pos c1]
      by_cases c2 : S.cntZ l i ((n : Int) + 1) ≥ m
      · rw [if_pos c2, E.wrap_id (x := 4 * S.cntZ l i ((n : Int) + 1)) (by omega) (by omega), GoodTells.count l i n (by omega) k (by omega), Option.bind_some]
        by_cases c3 : 4 * S.cntZ l i ((n : Int) + 1) ≤ S.cntZ l i n
        · rw [if_pos c3]
          refine ⟨false, rfl, fun e => (by cases e), fun h => ?_⟩
          have := h.1 i (by omega) (by omega) (by omega) c2
          omega
        · rw [if_neg c3]
          exact ⟨b, rfl, hnext fun _ _ => by omega⟩
      · rw [if_neg c2]
        exact ⟨b, rfl, hnext fun _ h => absurd h c2⟩
    · rw [if_neg c1]
      exact ⟨b, rfl, hnext fun h _ => by omega⟩

theorem GoodTells.good_l0 (l : List Int) (m : Int) (hl : l.length ≤ 210) (d : Nat) : ∀ (n k : Nat), n + d = 31 → d * 300 + 300 < k →
    ∃ b, stepladderref15_Good.l0 k l m n = some b ∧ (b = true ↔ ∀ v : Nat, n ≤ v → v < 31 → ∀ x : Int, 0 ≤ x → x < l.length → GoodTells.at l m v x) := by
  induction d with
  | zero =>
    intro n k hn hk
    obtain ⟨k, rfl⟩ : ∃ m, k = m + 1 := ⟨k - 1, by omega⟩
    simp only [stepladderref15_Good.l0]
    rw [if_neg (by omega)]
    exact ⟨true, rfl, fun _ v h1 h2 => by omega, fun _ => rfl⟩
  | succ d ih =>
    intro n k hn hk
    obtain ⟨k, rfl⟩ : ∃ m, k = m + 1 := ⟨k - 1, by omega⟩
    simp only [stepladderref15_Good.l0]
    rw [if_pos (by omega)]
    obtain ⟨K, hK⟩ : ∃ K, K = d * 300 + 300 := ⟨_, rfl⟩
    have hk' : l.length + 1 + K < k := by omega
    have hn' : n + 1 + d = 31 := by omega
    have hih := fun (k : Nat) (hk : K < k) => ih (n + 1) k hn' (hK ▸ hk)
    have h300 : 300 ≤ K := by omega
    have hn31 : n < 31 := by omega
    obtain ⟨b, hb, hbi⟩ := GoodTells.good_l1 l m n hn31 hl K h300 (∀ v : Nat, n + 1 ≤ v → v < 31 → ∀ x : Int, 0 ≤ x → x < l.length → GoodTells.at l m v x) hih l.length k 0 (Nat.sub_zero _) (Nat.zero_le _) hk'
    refine ⟨b, hb, hbi.trans ⟨fun h v h1 h2 x h3 h4 => ?_, fun h => ⟨fun x h1 h2 => h n (by omega) (by omega) x h1 h2, fun v h1 h2 x h3 h4 => h v (by omega) h2 x h3 h4⟩⟩⟩
    by_cases e : v = n
    · subst e; exact h.1 x h3 h4
    · exact h.2 v (by omega) h2 x h3 h4

theorem GoodTells.good (l : List Int) (m : Int) (hl : l.length ≤ 210) (k : Nat) (hk : 10000 < k) : stepladderref15_Good.f k l m = some (S.goodB l m) := by
  obtain ⟨k, rfl⟩ : ∃ q, k = q + 1 := ⟨k - 1, by omega⟩
  have hj : stepladderref15_Good.j0 (k + 1) l m true = some false := by simp only [stepladderref15_Good.j0, if_true]
  have hbad : ¬(S.mayB l = true ∧ 1 ≤ m) → some false = some (S.goodB l m) := fun h => by
    congr 1
    symm
    rw [← Bool.not_eq_true, S.goodB_iff]
    exact fun h' => h ⟨h'.1, h'.2.1⟩
  unfold stepladderref15_Good.f
  rw [GoodTells.may l hl (k + 1) (by omega)]
  simp only [Option.bind_some]
  by_cases hm : S.mayB l = true
  · rw [if_pos hm]
    by_cases h3 : m < 1
    · rw [decide_eq_true h3, hj]; exact hbad (fun h => by have := h.2; omega)
    rw [decide_eq_false h3]
    simp only [stepladderref15_Good.j0]
    obtain ⟨b, hb, hbi⟩ := GoodTells.good_l0 l m hl 31 0 k (by omega) (by omega)
    rw [show ((0 : Nat) : Int) = 0 from rfl] at hb
    rw [if_neg (by decide), hb]
    congr 1
    rw [Bool.eq_iff_iff, hbi, S.goodB_iff]
    exact ⟨fun h => ⟨hm, by omega, fun v hv x h1 h2 => h v (by omega) hv x h1 h2⟩, fun h v _ hv x h1 h2 => h.2.2 v hv x h1 h2⟩
  · rw [if_neg hm, hj]
    exact hbad (fun h => hm h.1)

theorem GoodTells.all (l : List Int) (n m i : Int) (k : Nat) (hk : 10001 < k) : stepladderlaw15_GoodTells.f k l n m i = some true := by
  obtain ⟨k, rfl⟩ : ∃ m, k = m + 1 := ⟨k - 1, by omega⟩
  have hj : stepladderlaw15_GoodTells.j0 (k + 1) l n m i true true = some true := by simp only [stepladderlaw15_GoodTells.j0, if_true]
  unfold stepladderlaw15_GoodTells.f
  rw [P.awake15 _ (by omega)]
  simp only [Option.bind_some, if_true]
  by_cases h1 : (l.length : Int) > 210
  · rw [decide_eq_true h1, hj]
  rw [decide_eq_false h1]
  simp only [stepladderlaw15_GoodTells.j0]
  rw [if_neg (by decide), GoodTells.fair l n m (by omega) k (by omega)]
  simp only [Option.bind_some]
  rw [GoodTells.good l m (by omega) k (by omega), P.fair_f, P.good_f, P.count l i n (by omega) k (by omega), GoodTells.count l i n (by omega) k (by omega)]
  simp

theorem GoodTells : stepladderlaw15_GoodTells.Pure := fun l n m i _ _ _ _ _ _ => ⟨10002, GoodTells.all l n m i 10002 (by omega)⟩

end Go.Proofs.Ytfbhgbnpppbiiaa.Pure
