/- Plain facts on ways down: no program in sight. -/
import Derived.Test.YtgjkjndfnjabeaaS1
import Derived.Test.YtgjkjndfnjabeaaS2
namespace Go.Proofs.Ytgjkjndfnjabeaa.X
open Go.Proofs.YtgjkjndfnjabeaaW.PrintWords

theorem S.backN_is {l : List Int} {n : Int} (h0 : n ≤ rd l 0) : ∀ i : Nat, 1 ≤ i → 0 ≤ S.backN l n i ∧ S.backN l n i < i ∧ (n ≤ 0 → S.backN l n i = (i : Int) - 1) ∧ (0 < n → n ≤ rd l (S.backN l n i)) ∧ ∀ y : Int, S.backN l n i < y → y < i → rd l y < n := by
  intro i
  induction i with
  | zero => intro h; omega
  | succ i ih =>
    intro _
    unfold S.backN
    by_cases hc : 0 < n ∧ rd l i < n
    · have hi : 1 ≤ i := by
        rcases Nat.eq_zero_or_pos i with e | e
        · subst e; have := hc.2; rw [show ((0 : Nat) : Int) = 0 from rfl] at this; omega
        · exact e
      obtain ⟨a, b, c, d, e⟩ := ih hi
      rw [if_pos hc]
      refine ⟨a, by omega, fun h => by omega, d, fun y h1 h2 => ?_⟩
      by_cases hy : y = i
      · subst hy; exact hc.2
      · exact e y h1 (by omega)
    · rw [if_neg hc]
      exact ⟨by omega, by omega, fun _ => by omega, fun h => by have := fun h' => hc ⟨h, h'⟩; omega, fun y h1 h2 => by omega⟩

theorem S.topB_iff {l : List Int} {lo x : Int} (h0 : 0 ≤ lo) : S.topB l lo x = true ↔ ∀ y : Int, lo ≤ y → y < x → rd l y ≤ rd l x := by
  unfold S.topB
  rw [List.all_eq_true]
  constructor
  · intro h y h1 h2
    have := h y.toNat (List.mem_range.2 (by omega))
    rw [show ((y.toNat : Nat) : Int) = y from by omega, decide_eq_false (by omega), Bool.false_or, decide_eq_true_eq] at this
    exact this
  · intro h y hy
    have hy' := List.mem_range.1 hy
    by_cases hlo : (y : Int) < lo
    · rw [decide_eq_true hlo]; rfl
    · rw [decide_eq_true (h y (by omega) (by omega))]; simp
theorem S.wayL_mem {l : List Int} {hi lo x : Int} (h0 : 0 ≤ lo) (h1 : hi < l.length) : x ∈ S.wayL l hi lo ↔ x = hi ∨ (lo ≤ x ∧ x < hi ∧ 0 ≤ rd l x ∧ ∀ y : Int, lo ≤ y → y < x → rd l y ≤ rd l x) := by
  unfold S.wayL
  rw [List.mem_append, List.mem_filter, S.upZ_mem, S.topB_iff h0, List.mem_singleton]
  constructor
  · rintro (⟨⟨a, b, c, d, e⟩, f⟩ | h)
    · exact .inr ⟨c, d, e, f⟩
    · exact .inl h
  · rintro (h | ⟨c, d, e, f⟩)
    · exact .inr h
    · exact .inl ⟨⟨by omega, by omega, c, d, e⟩, f⟩
theorem S.wayL_up (l : List Int) (hi lo : Int) : S.Up (S.wayL l hi lo) := by
  unfold S.wayL
  refine List.pairwise_append.2 ⟨S.up_filter (S.upZ_up _ _ _ _) _, List.pairwise_singleton _ _, fun a ha b hb => ?_⟩
  rw [List.mem_singleton] at hb
  have := S.upZ_mem.1 (List.mem_filter.1 ha).1
  omega
theorem S.upFrom_len' (l : List Int) : ∀ (i fr hi n : Int), (S.upFrom l i fr hi n).length ≤ l.length := by
  induction l with
  | nil => intro i fr hi n; exact Nat.le_refl _
  | cons y l ih =>
    intro i fr hi n
    have := ih (i + 1) fr hi n
    unfold S.upFrom
    split <;> simp <;> omega
theorem S.wayL_len (l : List Int) (hi lo : Int) : (S.wayL l hi lo).length ≤ l.length + 1 := by
  unfold S.wayL
  rw [List.length_append]
  have h1 := List.length_filter_le (fun x => S.topB l lo x) (S.upZ l lo hi 0)
  have h2 : (S.upZ l lo hi 0).length ≤ l.length := S.upFrom_len' _ _ _ _ _
  simp
  omega

/-- What of a way is not below a place. -/
def S.wayTo (l : List Int) (hi lo x : Int) : List Int := (S.wayL l hi lo).filter fun y => decide (x ≤ y)
theorem S.wayTo_mem {l : List Int} {hi lo x y : Int} : y ∈ S.wayTo l hi lo x ↔ y ∈ S.wayL l hi lo ∧ x ≤ y := by
  unfold S.wayTo
  rw [List.mem_filter, decide_eq_true_eq]
theorem S.wayTo_up (l : List Int) (hi lo x : Int) : S.Up (S.wayTo l hi lo x) := S.up_filter (S.wayL_up _ _ _) _
theorem S.wayTo_len (l : List Int) (hi lo x : Int) : (S.wayTo l hi lo x).length ≤ l.length + 1 := Nat.le_trans (List.length_filter_le _ _) (S.wayL_len _ _ _)
theorem S.way_start {l : List Int} {hi lo : Int} (h0 : 0 ≤ lo) (h1 : hi < l.length) : S.wayTo l hi lo hi = [hi] := by
  refine S.up_ext (S.wayTo_up _ _ _ _) (List.pairwise_singleton _ _) fun x => ?_
  rw [S.wayTo_mem, S.wayL_mem h0 h1, List.mem_singleton]
  constructor
  · rintro ⟨h | h, h'⟩
    · exact h
    · omega
  · rintro rfl; exact ⟨.inl rfl, Int.le_refl _⟩
theorem S.way_end {l : List Int} {hi lo : Int} (h0 : 0 ≤ lo) (h1 : hi < l.length) (h2 : lo ≤ hi) : S.wayTo l hi lo lo = S.wayL l hi lo := by
  unfold S.wayTo
  refine List.filter_eq_self.2 fun x hx => ?_
  rw [decide_eq_true_eq]
  rcases (S.wayL_mem h0 h1).1 hx with h | h
  · omega
  · exact h.1
theorem S.way_step {l : List Int} {hi lo x a : Int} (h0 : 0 ≤ lo) (h1 : hi < l.length) (h2 : lo ≤ x) (h3 : x < a) (h4 : a ≤ hi) (hx : 0 ≤ rd l x) (hb : ∀ y : Int, lo ≤ y → y < x → rd l y ≤ rd l x) (hm : ∀ y : Int, x < y → y < a → rd l y < rd l x) :
    S.wayTo l hi lo x = x :: S.wayTo l hi lo a := by
  refine S.up_ext (S.wayTo_up _ _ _ _) (List.Pairwise.cons (fun y hy => ?_) (S.wayTo_up _ _ _ _)) fun y => ?_
  · have := (S.wayTo_mem.1 hy).2; omega
  · rw [List.mem_cons, S.wayTo_mem, S.wayTo_mem, S.wayL_mem h0 h1]
    constructor
    · rintro ⟨hy, hxy⟩
      by_cases e : y = x
      · exact .inl e
      · refine .inr ⟨hy, ?_⟩
        rcases hy with hy | ⟨y1, y2, y3, y4⟩
        · omega
        · by_cases hya : a ≤ y
          · exact hya
          · have := hm y (by omega) (by omega)
            have := y4 x h2 (by omega)
            omega
    · rintro (rfl | ⟨hy, hay⟩)
      · exact ⟨.inr ⟨h2, by omega, hx, hb⟩, Int.le_refl _⟩
      · exact ⟨hy, by omega⟩

end Go.Proofs.Ytgjkjndfnjabeaa.X
