-- By this session's own program (wip/tools/xprint.py), over the kit's print. Not trusted: Lean checks it.
import Derived.Test.YtgjkjndfnjabeaaX0
import Derived.Test.YtgjkjndfnjabeaaE8
namespace Go.Proofs.Ytgjkjndfnjabeaa.X
open Go.RowKit Go.Proofs.YtgjkjndfnjabeaaW.PrintWords Go.Proofs.YtgjkjndfnjabeaaW.PrintLast Go.Proofs.YtgjkjndfnjabeaaW.PrintMore
attribute [local go_sem] max2_int min2_int max_two min_two max_three min_three max_four min_four   -- for this text's walks alone
set_option linter.unusedVariables false
set_option linter.unusedSimpArgs false

/-! ### infix_Follow: function 16 -/
-- EXT YtgjkjndfnjabeaaE8
def infix_Follow.f (l0 : List Int) (a1 : Int) (a2 : Int) : Option (List Int × Bool) := some (S.followZ l0 a1 a2)
theorem infix_Follow.calls (A0 : Option Addr) (c0 : Nat) (l0 : List Int) (a1 : Int) (a2 : Int) (r1 : List Int) (r2 : Bool) (w : World) (hr0 : Kd.C (Kd.int .i64) w A0 l0.length l0) (hc0 : l0.length ≤ c0) (h : infix_Follow.f l0 a1 a2 = some (r1, r2)) :
    Calls Try.prog 16 #[.slice A0 l0.length c0, .int .i64 a1, .int .i64 a2] w fun e w' => ∃ v0_ : Value, e = .returned (.tuple #[v0_, .bool r2]) ∧ Kd.R (Kd.int .i64) 3 w' w.heap.size (fun _ => True) v0_ r1 ∧ Below w.heap.size w w' := by
  have h' := Option.some.inj h
  obtain ⟨rfl, rfl⟩ : (S.followZ l0 a1 a2).1 = r1 ∧ (S.followZ l0 a1 a2).2 = r2 := by rw [h']; exact ⟨rfl, rfl⟩
  exact E.follow_calls A0 c0 l0 a1 a2 w hr0 hc0


end Go.Proofs.Ytgjkjndfnjabeaa.X
