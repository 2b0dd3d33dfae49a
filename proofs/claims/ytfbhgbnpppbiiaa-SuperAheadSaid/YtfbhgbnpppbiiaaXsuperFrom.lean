-- By this session's own program (wip/tools/xprint.py), over the kit's print. Not trusted: Lean checks it.
import Derived.Test.YtfbhgbnpppbiiaaX0
import Derived.Test.YtfbhgbnpppbiiaaE3
namespace Go.Proofs.Ytfbhgbnpppbiiaa.X
open Go.RowKit Go.Proofs.YtfbhgbnpppbiiaaW.PrintWords Go.Proofs.YtfbhgbnpppbiiaaW.PrintLast Go.Proofs.YtfbhgbnpppbiiaaW.PrintMore
attribute [local go_sem] max2_int min2_int max_two min_two max_three min_three max_four min_four   -- for this text's walks alone
set_option linter.unusedVariables false
set_option linter.unusedSimpArgs false

/-! ### super_From: function 26 -/
-- EXT YtfbhgbnpppbiiaaE3
def super_From.f (l0 : List Int) (a1 : Int) (a2 : Int) (a3 : Int) : Option (Int) := if a1 ≤ 9223372036854775807 ∧ -9223372036854775808 ≤ a3 then some (S.fromZ l0 a1 a2 a3) else none
theorem super_From.calls (A0 : Option Addr) (c0 : Nat) (l0 : List Int) (a1 : Int) (a2 : Int) (a3 : Int) (r : Int) (w : World) (hr0 : Kd.C (Kd.int .i64) w A0 l0.length l0) (hc0 : l0.length ≤ c0) (h : super_From.f l0 a1 a2 a3 = some r) :
    Calls Try.prog 26 #[.slice A0 l0.length c0, .int .i64 a1, .int .i64 a2, .int .i64 a3] w fun e w' => e = .returned (.int .i64 r) ∧ Below w.heap.size w w' := by
  unfold super_From.f at h
  split at h
  · rename_i hb; obtain rfl := Option.some.inj h; exact E.from_calls A0 c0 l0 a1 a2 a3 w hr0 hc0 hb.1 hb.2
  · cases h


end Go.Proofs.Ytfbhgbnpppbiiaa.X
