/- What good's functions come to, as the print has them. -/
import Derived.Test.YtgjkjndfnjabeaaPA
import Derived.Test.YtgjkjndfnjabeaaE7
import Derived.Test.YtgjkjndfnjabeaaXgoodFair
import Derived.Test.YtgjkjndfnjabeaaXgoodGood
import Derived.Test.YtgjkjndfnjabeaaXstepladderlaw15awake
namespace Go.Proofs.Ytgjkjndfnjabeaa.X
open Go.RowKit Go.Proofs.YtgjkjndfnjabeaaW.PrintWords

theorem P.count (l : List Int) (i n : Int) (hl : l.length ≤ 210) (k : Nat) (hk : l.length + 1 < k) : good_Count.f k l i n = some (S.cntZ l i n) := by
  unfold good_Count.f
  rw [E.up_f l i _ n (by omega) k hk]
  rfl
theorem P.fair_f (l : List Int) (n m : Int) : good_Fair.f l n m = some (S.fairB l n m) := rfl
theorem P.good_f (l : List Int) (m : Int) : good_Good.f l m = some (S.goodB l m) := rfl
theorem P.awake15 (k : Nat) (hk : 10 < k) : stepladderlaw15_awake.f k = some true := by
  unfold stepladderlaw15_awake.f
  rw [P.good_f, show S.goodB [31, 0, 0, 0, 0, 0] 1 = false from by decide +kernel]
  simp only [Option.bind_some, Bool.false_eq_true, if_false]
  rw [P.good_f, show S.goodB [31, 0, 0] 1 = true from by decide +kernel]
  simp only [Option.bind_some, if_true]
  rw [P.fair_f, show S.fairB [31, 0, 0] 0 1 = true from by decide +kernel]
  simp only [Option.bind_some, if_true]
  rw [P.count _ _ _ (by simp) k (by simp; omega), show S.cntZ [31, 0, 2] 1 0 = 2 from by decide +kernel]
  rfl

theorem S.cntZ_nonneg (l : List Int) (i n : Int) : 0 ≤ S.cntZ l i n := by unfold S.cntZ; omega
theorem S.cntZ_mono {l : List Int} {i i' n n' : Int} (hi : i' ≤ i) (hn : n' ≤ n) : S.cntZ l i n ≤ S.cntZ l i' n' := by
  unfold S.cntZ
  have := S.sub_len (a := S.upZ l i (l.length : Int) n) (b := S.upZ l i' (l.length : Int) n') (S.upZ_up _ _ _ _) (S.upZ_up _ _ _ _) fun x hx => by
    rw [S.upZ_mem] at hx ⊢
    exact ⟨hx.1, hx.2.1, by omega, hx.2.2.2.1, by omega⟩
  omega

/-- All levels from a place on, where all may be. -/
theorem S.upZ_all {l : List Int} (h : ∀ x : Int, 0 ≤ x → x < l.length → 0 ≤ rd l x) (d : Nat) : ∀ i : Int, 0 ≤ i → i ≤ l.length → (l.length : Int) - i = d → (S.upZ l i (l.length : Int) 0).length = d := by
  induction d with
  | zero =>
    intro i h0 h1 hd
    rw [List.length_eq_zero_iff]
    refine List.eq_nil_iff_forall_not_mem.2 fun x hx => ?_
    have := S.upZ_mem.1 hx
    omega
  | succ d ih =>
    intro i h0 h1 hd
    rw [S.upZ_cons h0 (by omega) (by omega) (h i h0 (by omega)), List.length_cons, ih (i + 1) (by omega) (by omega) (by omega)]
theorem S.cntZ_all {l : List Int} (h : ∀ x : Int, 0 ≤ x → x < l.length → 0 ≤ rd l x) {i : Int} (h0 : 0 ≤ i) (h1 : i ≤ l.length) : S.cntZ l i 0 = (l.length : Int) - i := by
  unfold S.cntZ
  rw [S.upZ_all h ((l.length : Int) - i).toNat i h0 h1 (by omega)]
  omega

theorem S.allB_iff {l : List Int} {n m : Int} {is : Int → Int → Bool} : S.allB l n m is = true ↔ ∀ i : Int, 0 ≤ i → i < l.length → n ≤ rd l i → m ≤ S.cntZ l i n → is i (S.cntZ l i n) = true := by
  unfold S.allB
  rw [List.all_eq_true]
  constructor
  · intro h i h0 h1 h2 h3
    have := h i (S.upZ_mem.2 ⟨h0, h1, h0, h1, h2⟩)
    rw [decide_eq_true h3] at this
    simpa using this
  · intro h i hi
    obtain ⟨h0, h1, _, _, h2⟩ := S.upZ_mem.1 hi
    by_cases h3 : m ≤ S.cntZ l i n
    · rw [h i h0 h1 h2 h3]; simp
    · rw [decide_eq_false h3]; rfl

theorem S.fairB_iff {l : List Int} {n m : Int} : S.fairB l n m = true ↔ S.mayB l = true ∧ 0 ≤ n ∧ n ≤ 31 ∧ 1 ≤ m ∧ ∀ i : Int, 0 ≤ i → i < l.length → n ≤ rd l i → m ≤ S.cntZ l i n → (l.length : Int) - i < S.cntZ l i n * 2 ^ (n + 1).toNat := by
  unfold S.fairB
  simp only [Bool.and_eq_true, decide_eq_true_eq, S.allB_iff]
theorem S.goodB_iff {l : List Int} {m : Int} : S.goodB l m = true ↔ S.mayB l = true ∧ 1 ≤ m ∧ ∀ n : Nat, n < 31 → ∀ i : Int, 0 ≤ i → i < l.length → (n : Int) + 1 ≤ rd l i → m ≤ S.cntZ l i ((n : Int) + 1) → S.cntZ l i n < 4 * S.cntZ l i ((n : Int) + 1) := by
  unfold S.goodB
  simp only [Bool.and_eq_true, decide_eq_true_eq, List.all_eq_true, List.mem_range, S.allB_iff]

end Go.Proofs.Ytgjkjndfnjabeaa.X
