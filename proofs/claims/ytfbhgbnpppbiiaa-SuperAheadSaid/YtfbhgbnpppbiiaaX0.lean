-- By this session's own program (wip/tools/xprint.py), over the kit's print. Not trusted: Lean checks it.
import Derived.Test.YtfbhgbnpppbiiaaProg
import Derived.Below
import Derived.Deep.Draws
import Derived.Deep.AppendLies
import Derived.Maps.AppendAt
import Derived.OwnWalk
import Derived.Laws.BytesArg
import Derived.Laws.MakeOwn
import Derived.Laws.OwnMore
import Derived.Deep.OwnRows
import Derived.Tactics
import Derived.Lib.ConvBytes
import Derived.Laws.Slices
import Derived.WalkKit
import Derived.KernelRfl
import Derived.RowKit3
import Derived.Deep.LoopGhost
import Derived.Deep.QuietTactic
import Derived.BigQuiet
import Derived.WideLaws
import Derived.Deep.DeepCutAuto
import Derived.Deep.CutBlock
import Derived.Deep.RegionHeld3
import Derived.Laws.Rows
import Derived.Lib.AppendStr
import Derived.ArgAppend
import Derived.Laws.IdiomCopy
import Derived.OrdersHeld
import Derived.Laws.BitsLemmas
import Derived.RowKit
import Derived.Test.YtfbhgbnpppbiiaaWWords
import Derived.Test.YtfbhgbnpppbiiaaWLast
import Derived.Test.YtfbhgbnpppbiiaaWTab
import Derived.Test.YtfbhgbnpppbiiaaWFour
import Derived.Test.YtfbhgbnpppbiiaaWQPut
import Derived.Test.YtfbhgbnpppbiiaaWApart
import Derived.Test.YtfbhgbnpppbiiaaWArr
import Derived.Test.YtfbhgbnpppbiiaaWZeros
import Derived.Test.YtfbhgbnpppbiiaaWFoot
import Derived.Test.YtfbhgbnpppbiiaaWKept
import Derived.Test.YtfbhgbnpppbiiaaWShare
import Derived.Test.YtfbhgbnpppbiiaaWN
import Derived.Test.YtfbhgbnpppbiiaaWFootNe
import Derived.Test.YtfbhgbnpppbiiaaWAt
import Derived.Test.YtfbhgbnpppbiiaaWEqStruct
import Derived.Test.YtfbhgbnpppbiiaaWRepsOne
import Derived.Test.YtfbhgbnpppbiiaaWInv
import Derived.Test.YtfbhgbnpppbiiaaWInvWords
import Derived.Test.YtfbhgbnpppbiiaaWGuard
import Derived.Test.YtfbhgbnpppbiiaaWNEv
import Derived.Test.YtfbhgbnpppbiiaaWMore
namespace Go.Proofs.Ytfbhgbnpppbiiaa.X
open Go.RowKit Go.Proofs.YtfbhgbnpppbiiaaW.PrintWords Go.Proofs.YtfbhgbnpppbiiaaW.PrintLast Go.Proofs.YtfbhgbnpppbiiaaW.PrintMore
attribute [local go_sem] max2_int min2_int max_two min_two max_three min_three max_four min_four   -- for this text's walks alone
set_option linter.unusedVariables false
set_option linter.unusedSimpArgs false



def errW : Option Int → Value
  | none => .nilIface
  | some c => .iface 0 (.int .i64 c)
theorem errW_none : errW none = .nilIface := rfl
theorem errW_some (c : Int) : errW (some c) = .iface 0 (.int .i64 c) := rfl

theorem info3 : (Try.prog.info? 3).map (fun i => (i.zero, i.size, i.bytes)) = some (some (.int .i64 0), 1, 8) := by kernel_rfl
-- the values' own types

end Go.Proofs.Ytfbhgbnpppbiiaa.X
