-- By this session's own program (wip/tools/xprint.py), over the kit's print. Not trusted: Lean checks it.
import Derived.Test.YtgjkjndfnjabeaaX0
import Derived.Test.YtgjkjndfnjabeaaE9
namespace Go.Proofs.Ytgjkjndfnjabeaa.X
open Go.RowKit Go.Proofs.YtgjkjndfnjabeaaW.PrintWords Go.Proofs.YtgjkjndfnjabeaaW.PrintLast Go.Proofs.YtgjkjndfnjabeaaW.PrintMore
attribute [local go_sem] max2_int min2_int max_two min_two max_three min_three max_four min_four   -- for this text's walks alone
set_option linter.unusedVariables false
set_option linter.unusedSimpArgs false

/-! ### infix_Both: function 19 -/
-- EXT YtgjkjndfnjabeaaE9
def infix_Both.f (l0 : List Int) (l1 : List Int) : Option (List Int) := if l0.length + l1.length ≤ 1000000 then some (S.bothL l0 l1) else none
theorem infix_Both.calls (A0 : Option Addr) (c0 : Nat) (l0 : List Int) (A1 : Option Addr) (c1 : Nat) (l1 : List Int) (r : List Int) (w : World) (hr0 : Kd.C (Kd.int .i64) w A0 l0.length l0) (hc0 : l0.length ≤ c0) (hr1 : Kd.C (Kd.int .i64) w A1 l1.length l1) (hc1 : l1.length ≤ c1) (h : infix_Both.f l0 l1 = some r) :
    Calls Try.prog 19 #[.slice A0 l0.length c0, .slice A1 l1.length c1] w fun e w' => ∃ v0_ : Value, e = .returned (v0_) ∧ Kd.R (Kd.int .i64) 3 w' w.heap.size (fun _ => True) v0_ r ∧ Below w.heap.size w w' := by
  unfold infix_Both.f at h
  split at h
  · rename_i hb; obtain rfl := Option.some.inj h; exact E.both_calls A0 c0 l0 A1 c1 l1 w hr0 hc0 hr1 hc1 hb
  · cases h


end Go.Proofs.Ytgjkjndfnjabeaa.X
