/- super.may and super.From. -/
import Derived.Test.YtgjkjndfnjabeaaE2
import Derived.Test.YtgjkjndfnjabeaaS1
import Derived.Test.YtgjkjndfnjabeaaXsupermay
import Derived.RangeFuncNested
namespace Go.Proofs.Ytgjkjndfnjabeaa.X
open Go.RowKit Go.Shelf Go.Proofs.YtgjkjndfnjabeaaW.PrintWords Go.Proofs.YtgjkjndfnjabeaaW.PrintLast Go.Proofs.YtgjkjndfnjabeaaW.PrintMore

theorem E.may_f (l : List Int) (m k : Int) : super_may.f l m k = some (S.okB l m k) := by
  unfold super_may.f super_May.f S.okB
  simp only [Option.bind_some]
  cases S.mayB l
  · simp
  · by_cases h1 : 1 ≤ m
    · by_cases h2 : 1 ≤ k
      · simp [h1, h2]
      · simp [h1, h2]
    · simp [h1]

theorem S.okB_parts {l : List Int} {m k : Int} (h : S.okB l m k = true) : S.mayB l = true ∧ 1 ≤ m ∧ 1 ≤ k ∧ k < (l.length : Int) := by
  unfold S.okB at h
  simpa using h
theorem S.mayB_parts {l : List Int} (h : S.mayB l = true) : 0 < l.length ∧ l.length ≤ 200 ∧ rd l 0 = 31 ∧ ∀ x : Int, 0 ≤ x → x < l.length → 0 ≤ rd l x ∧ rd l x ≤ 31 := by
  unfold S.mayB at h
  simp only [Bool.and_eq_true, decide_eq_true_eq, Bool.not_eq_true', List.any_eq_false] at h
  obtain ⟨h1, h2, h3, h4⟩ := h
  refine ⟨h1, h2, h3, fun x hx0 hx1 => ?_⟩
  have := h4 _ (S.rd_mem hx0 hx1)
  unfold S.oddB at this
  simp at this
  omega
theorem S.climb_from {l : List Int} {m k : Int} (h : S.okB l m k = true) (n : Nat) (hn : n ≤ 31) : S.climbAt l m k (31 - n) = S.mthLast (S.upZ l 0 ((l.length : Int) - k) ((n : Int) + 1)) m := by
  obtain ⟨h0, h1, h2, h3⟩ := S.okB_parts h
  obtain ⟨_, _, h6, h7⟩ := S.mayB_parts h0
  rw [S.climbAt_is l m k h1 h3 h6 (fun x a b => (h7 x a b).2) h2 (31 - n) (by omega)]
  congr 2
  omega

theorem E.boxKept {W W' : World} {B : Nat} {t : TypeId} {v : Value} (h : Boxed W B t v) (hb : Below W.heap.size W W') : Boxed W' B t v := (hb.block B h.lt).trans h

end Go.Proofs.Ytgjkjndfnjabeaa.X
