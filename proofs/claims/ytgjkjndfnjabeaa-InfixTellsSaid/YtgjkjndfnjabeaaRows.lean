/-
  No cell of these rows narrows 'for every input' (looked for: loops, veiled, ifaces, maps, wideKeys, modest, calm, conditions, laid).
  DERIVED. THE GIVEN ROWS OF THIS SEAT. 8 by the template 'for every input the law returns true; each argument reads behind the call as it read before'; 0 by the template 'total and deterministic' (their statements: YtgjkjndfnjabeaaTotals.lean).
  GIVEN WITH THE SEED: the statements are not yours to turn. If you find one false, say at which input.
  Laid BY PROGRAM, IN A SANDBOX (cutbox-rows.mjs): the forced cells as the released guide's own fill.sh prints them over the translation 4f04e2e41d5c19be… (all of the seat's roots in one cut). By AI agents, Wed Nov 11 2026. No macro, syntax, notation, axiom, sorry.
-/
import Derived.Test.YtgjkjndfnjabeaaChecked
import GoSem.Claim
import GoSem.ClaimJoined
import GoSem.ClaimMapViews
import Derived.JoinedTies
import Derived.KernelRfl
namespace Go.Proofs.Ytgjkjndfnjabeaa
/- THE CELL 'sum', in the pinned program and in every row, IS THE sha256 OF THE DUMP (.gsa) THAT YtgjkjndfnjabeaaProg.lean LOADS. Nothing in Lean hashes anything: it is a label: what it is worth is what the hold of that sum in a sandbox is worth. -/
noncomputable def Try.pinned : Pinned := { name := "ytgjkjndfnjabeaa", sum := "4f04e2e41d5c19be34c52adc68efc016bfa200f126ba56d1552e791658dc8256", checked := Try.checked }
namespace Rows
def none {H : Type} : Left H := { results := [], args := [] }

/-- 'stepladderlaw15.GoodBounds': WHATEVER THE INPUT: true; the input reads as it did. -/
def goodBoundsSpec : ChangeSpec := { name := "goodBounds", fn := fun _ => fun
  | [d1, d2, d3, d4] => { results := [.lit (.bool true)], args := [d1, d2, d3, d4] }
  | _ => none }
def goodBoundsRow : OpenClaim := { program := "ytgjkjndfnjabeaa", sum := "4f04e2e41d5c19be34c52adc68efc016bfa200f126ba56d1552e791658dc8256", func := "stepladder/stepladderlaw15.GoodBounds", spec := "goodBounds", unfollowed := true, recurses := true, apart := false }
def GoodBoundsSaid : Prop := goodBoundsRow.holds Try.pinned (OpenSpec.ofChange goodBoundsSpec)

/-- ITS FALSE NEIGHBOUR: 'it returns false'. Refute it at one input. -/
def goodBoundsWrong : ChangeSpec := { name := "goodBounds", fn := fun _ => fun
  | [d1, d2, d3, d4] => { results := [.lit (.bool false)], args := [d1, d2, d3, d4] }
  | _ => none }
def GoodBoundsWrongFalsely : Prop := goodBoundsRow.holds Try.pinned (OpenSpec.ofChange goodBoundsWrong)

/-- 'stepladderlaw16.InfixTells': WHATEVER THE INPUT: true; the input reads as it did. -/
def infixTellsSpec : ChangeSpec := { name := "infixTells", fn := fun _ => fun
  | [d1, d2, d3, d4, d5, d6, d7] => { results := [.lit (.bool true)], args := [d1, d2, d3, d4, d5, d6, d7] }
  | _ => none }
def infixTellsRow : OpenClaim := { program := "ytgjkjndfnjabeaa", sum := "4f04e2e41d5c19be34c52adc68efc016bfa200f126ba56d1552e791658dc8256", func := "stepladder/stepladderlaw16.InfixTells", spec := "infixTells", unfollowed := true, recurses := true, apart := false }
def InfixTellsSaid : Prop := infixTellsRow.holds Try.pinned (OpenSpec.ofChange infixTellsSpec)

/-- ITS FALSE NEIGHBOUR: 'it returns false'. Refute it at one input. -/
def infixTellsWrong : ChangeSpec := { name := "infixTells", fn := fun _ => fun
  | [d1, d2, d3, d4, d5, d6, d7] => { results := [.lit (.bool false)], args := [d1, d2, d3, d4, d5, d6, d7] }
  | _ => none }
def InfixTellsWrongFalsely : Prop := infixTellsRow.holds Try.pinned (OpenSpec.ofChange infixTellsWrong)

/-- 'stepladderlaw16.InfixWays': WHATEVER THE INPUT: true; the input reads as it did. -/
def infixWaysSpec : ChangeSpec := { name := "infixWays", fn := fun _ => fun
  | [d1, d2, d3, d4] => { results := [.lit (.bool true)], args := [d1, d2, d3, d4] }
  | _ => none }
def infixWaysRow : OpenClaim := { program := "ytgjkjndfnjabeaa", sum := "4f04e2e41d5c19be34c52adc68efc016bfa200f126ba56d1552e791658dc8256", func := "stepladder/stepladderlaw16.InfixWays", spec := "infixWays", unfollowed := true, recurses := true, apart := false }
def InfixWaysSaid : Prop := infixWaysRow.holds Try.pinned (OpenSpec.ofChange infixWaysSpec)

/-- ITS FALSE NEIGHBOUR: 'it returns false'. Refute it at one input. -/
def infixWaysWrong : ChangeSpec := { name := "infixWays", fn := fun _ => fun
  | [d1, d2, d3, d4] => { results := [.lit (.bool false)], args := [d1, d2, d3, d4] }
  | _ => none }
def InfixWaysWrongFalsely : Prop := infixWaysRow.holds Try.pinned (OpenSpec.ofChange infixWaysWrong)

/-- 'stepladderlaw16.InfixBack': WHATEVER THE INPUT: true; the input reads as it did. -/
def infixBackSpec : ChangeSpec := { name := "infixBack", fn := fun _ => fun
  | [d1, d2, d3, d4, d5] => { results := [.lit (.bool true)], args := [d1, d2, d3, d4, d5] }
  | _ => none }
def infixBackRow : OpenClaim := { program := "ytgjkjndfnjabeaa", sum := "4f04e2e41d5c19be34c52adc68efc016bfa200f126ba56d1552e791658dc8256", func := "stepladder/stepladderlaw16.InfixBack", spec := "infixBack", unfollowed := true, recurses := true, apart := false }
def InfixBackSaid : Prop := infixBackRow.holds Try.pinned (OpenSpec.ofChange infixBackSpec)

/-- ITS FALSE NEIGHBOUR: 'it returns false'. Refute it at one input. -/
def infixBackWrong : ChangeSpec := { name := "infixBack", fn := fun _ => fun
  | [d1, d2, d3, d4, d5] => { results := [.lit (.bool false)], args := [d1, d2, d3, d4, d5] }
  | _ => none }
def InfixBackWrongFalsely : Prop := infixBackRow.holds Try.pinned (OpenSpec.ofChange infixBackWrong)

/-- 'stepladderlaw16.InfixBoth': WHATEVER THE INPUT: true; the input reads as it did. -/
def infixBothSpec : ChangeSpec := { name := "infixBoth", fn := fun _ => fun
  | [d1, d2] => { results := [.lit (.bool true)], args := [d1, d2] }
  | _ => none }
def infixBothRow : OpenClaim := { program := "ytgjkjndfnjabeaa", sum := "4f04e2e41d5c19be34c52adc68efc016bfa200f126ba56d1552e791658dc8256", func := "stepladder/stepladderlaw16.InfixBoth", spec := "infixBoth", unfollowed := true, recurses := true, apart := false }
def InfixBothSaid : Prop := infixBothRow.holds Try.pinned (OpenSpec.ofChange infixBothSpec)

/-- ITS FALSE NEIGHBOUR: 'it returns false'. Refute it at one input. -/
def infixBothWrong : ChangeSpec := { name := "infixBoth", fn := fun _ => fun
  | [d1, d2] => { results := [.lit (.bool false)], args := [d1, d2] }
  | _ => none }
def InfixBothWrongFalsely : Prop := infixBothRow.holds Try.pinned (OpenSpec.ofChange infixBothWrong)

/-- 'stepladderlaw16.InfixShort': WHATEVER THE INPUT: true; the input reads as it did. -/
def infixShortSpec : ChangeSpec := { name := "infixShort", fn := fun _ => fun
  | [d1, d2, d3, d4] => { results := [.lit (.bool true)], args := [d1, d2, d3, d4] }
  | _ => none }
def infixShortRow : OpenClaim := { program := "ytgjkjndfnjabeaa", sum := "4f04e2e41d5c19be34c52adc68efc016bfa200f126ba56d1552e791658dc8256", func := "stepladder/stepladderlaw16.InfixShort", spec := "infixShort", unfollowed := true, recurses := true, apart := false }
def InfixShortSaid : Prop := infixShortRow.holds Try.pinned (OpenSpec.ofChange infixShortSpec)

/-- ITS FALSE NEIGHBOUR: 'it returns false'. Refute it at one input. -/
def infixShortWrong : ChangeSpec := { name := "infixShort", fn := fun _ => fun
  | [d1, d2, d3, d4] => { results := [.lit (.bool false)], args := [d1, d2, d3, d4] }
  | _ => none }
def InfixShortWrongFalsely : Prop := infixShortRow.holds Try.pinned (OpenSpec.ofChange infixShortWrong)

/-- 'stepladderlaw16.InfixOnce': WHATEVER THE INPUT: true; the input reads as it did. -/
def infixOnceSpec : ChangeSpec := { name := "infixOnce", fn := fun _ => fun
  | [d1, d2, d3, d4] => { results := [.lit (.bool true)], args := [d1, d2, d3, d4] }
  | _ => none }
def infixOnceRow : OpenClaim := { program := "ytgjkjndfnjabeaa", sum := "4f04e2e41d5c19be34c52adc68efc016bfa200f126ba56d1552e791658dc8256", func := "stepladder/stepladderlaw16.InfixOnce", spec := "infixOnce", unfollowed := true, recurses := true, apart := false }
def InfixOnceSaid : Prop := infixOnceRow.holds Try.pinned (OpenSpec.ofChange infixOnceSpec)

/-- ITS FALSE NEIGHBOUR: 'it returns false'. Refute it at one input. -/
def infixOnceWrong : ChangeSpec := { name := "infixOnce", fn := fun _ => fun
  | [d1, d2, d3, d4] => { results := [.lit (.bool false)], args := [d1, d2, d3, d4] }
  | _ => none }
def InfixOnceWrongFalsely : Prop := infixOnceRow.holds Try.pinned (OpenSpec.ofChange infixOnceWrong)

/-- 'stepladderlaw16.InfixPrefix': WHATEVER THE INPUT: true; the input reads as it did. -/
def infixPrefixSpec : ChangeSpec := { name := "infixPrefix", fn := fun _ => fun
  | [d1, d2, d3, d4, d5] => { results := [.lit (.bool true)], args := [d1, d2, d3, d4, d5] }
  | _ => none }
def infixPrefixRow : OpenClaim := { program := "ytgjkjndfnjabeaa", sum := "4f04e2e41d5c19be34c52adc68efc016bfa200f126ba56d1552e791658dc8256", func := "stepladder/stepladderlaw16.InfixPrefix", spec := "infixPrefix", unfollowed := true, recurses := true, apart := false }
def InfixPrefixSaid : Prop := infixPrefixRow.holds Try.pinned (OpenSpec.ofChange infixPrefixSpec)

/-- ITS FALSE NEIGHBOUR: 'it returns false'. Refute it at one input. -/
def infixPrefixWrong : ChangeSpec := { name := "infixPrefix", fn := fun _ => fun
  | [d1, d2, d3, d4, d5] => { results := [.lit (.bool false)], args := [d1, d2, d3, d4, d5] }
  | _ => none }
def InfixPrefixWrongFalsely : Prop := infixPrefixRow.holds Try.pinned (OpenSpec.ofChange infixPrefixWrong)

/- THE SECOND FORM. 'bulk': how many values and letters a reading holds, each counted each time it is reached (what is shared counts as often as it is met; a slice's spare places count too). A statement '..UptoSaid' is the law's where the arguments, and the package variables that the reading takes, are together of bulk at most 1048576: NARROWER than '..Said'. Prove '..Said' where nothing that the law and all that it calls make is longer than what came in: it says more and counts as full. Else prove '..UptoSaid'. A law counts once. -/
mutual
def uptoBulk {H : Type} : DataW H → Nat
  | .lit (.string bytes) => bytes.length + 1
  | .lit _ => 1
  | .nil => 1
  | .ptr d => uptoBulk d + 1
  | .slice elems spare => uptoBulkAll elems + uptoBulkAll spare + 1
  | .agg parts => uptoBulkAll parts + 1
  | .iface _ d => uptoBulk d + 1
  | .map entries => uptoBulkEntries entries + 1
  | .held _ => 1
def uptoBulkAll {H : Type} : List (DataW H) → Nat
  | [] => 0
  | d :: r => uptoBulk d + uptoBulkAll r
def uptoBulkEntries {H : Type} : List (Lit × DataW H) → Nat
  | [] => 0
  | x :: r => uptoBulkEntry x + uptoBulkEntries r
def uptoBulkEntry {H : Type} : Lit × DataW H → Nat
  | (.string bytes, d) => bytes.length + uptoBulk d + 1
  | (_, d) => uptoBulk d + 1
 end
def uptoSmall : (H : Type) → List (DataW H) → Bool := fun _ ds => decide (uptoBulkAll ds ≤ 1048576)
def OpenSpec.upto (s : _root_.Go.ChangeSpec) : _root_.Go.OpenSpec := { _root_.Go.OpenSpec.ofChange s with cond := some uptoSmall }

/-- 'stepladderlaw15.GoodBounds', WHERE WHAT IT READS IS OF BULK AT MOST 1048576: true; the input reads as it did. -/
def goodBoundsUptoRow : OpenClaim := { program := "ytgjkjndfnjabeaa", sum := "4f04e2e41d5c19be34c52adc68efc016bfa200f126ba56d1552e791658dc8256", func := "stepladder/stepladderlaw15.GoodBounds", spec := "goodBounds", unfollowed := true, recurses := true, apart := false, narrowed := true }
def GoodBoundsUptoSaid : Prop := goodBoundsUptoRow.holds Try.pinned (OpenSpec.upto goodBoundsSpec)

/-- 'stepladderlaw16.InfixTells', WHERE WHAT IT READS IS OF BULK AT MOST 1048576: true; the input reads as it did. -/
def infixTellsUptoRow : OpenClaim := { program := "ytgjkjndfnjabeaa", sum := "4f04e2e41d5c19be34c52adc68efc016bfa200f126ba56d1552e791658dc8256", func := "stepladder/stepladderlaw16.InfixTells", spec := "infixTells", unfollowed := true, recurses := true, apart := false, narrowed := true }
def InfixTellsUptoSaid : Prop := infixTellsUptoRow.holds Try.pinned (OpenSpec.upto infixTellsSpec)

/-- 'stepladderlaw16.InfixWays', WHERE WHAT IT READS IS OF BULK AT MOST 1048576: true; the input reads as it did. -/
def infixWaysUptoRow : OpenClaim := { program := "ytgjkjndfnjabeaa", sum := "4f04e2e41d5c19be34c52adc68efc016bfa200f126ba56d1552e791658dc8256", func := "stepladder/stepladderlaw16.InfixWays", spec := "infixWays", unfollowed := true, recurses := true, apart := false, narrowed := true }
def InfixWaysUptoSaid : Prop := infixWaysUptoRow.holds Try.pinned (OpenSpec.upto infixWaysSpec)

/-- 'stepladderlaw16.InfixBack', WHERE WHAT IT READS IS OF BULK AT MOST 1048576: true; the input reads as it did. -/
def infixBackUptoRow : OpenClaim := { program := "ytgjkjndfnjabeaa", sum := "4f04e2e41d5c19be34c52adc68efc016bfa200f126ba56d1552e791658dc8256", func := "stepladder/stepladderlaw16.InfixBack", spec := "infixBack", unfollowed := true, recurses := true, apart := false, narrowed := true }
def InfixBackUptoSaid : Prop := infixBackUptoRow.holds Try.pinned (OpenSpec.upto infixBackSpec)

/-- 'stepladderlaw16.InfixBoth', WHERE WHAT IT READS IS OF BULK AT MOST 1048576: true; the input reads as it did. -/
def infixBothUptoRow : OpenClaim := { program := "ytgjkjndfnjabeaa", sum := "4f04e2e41d5c19be34c52adc68efc016bfa200f126ba56d1552e791658dc8256", func := "stepladder/stepladderlaw16.InfixBoth", spec := "infixBoth", unfollowed := true, recurses := true, apart := false, narrowed := true }
def InfixBothUptoSaid : Prop := infixBothUptoRow.holds Try.pinned (OpenSpec.upto infixBothSpec)

/-- 'stepladderlaw16.InfixShort', WHERE WHAT IT READS IS OF BULK AT MOST 1048576: true; the input reads as it did. -/
def infixShortUptoRow : OpenClaim := { program := "ytgjkjndfnjabeaa", sum := "4f04e2e41d5c19be34c52adc68efc016bfa200f126ba56d1552e791658dc8256", func := "stepladder/stepladderlaw16.InfixShort", spec := "infixShort", unfollowed := true, recurses := true, apart := false, narrowed := true }
def InfixShortUptoSaid : Prop := infixShortUptoRow.holds Try.pinned (OpenSpec.upto infixShortSpec)

/-- 'stepladderlaw16.InfixOnce', WHERE WHAT IT READS IS OF BULK AT MOST 1048576: true; the input reads as it did. -/
def infixOnceUptoRow : OpenClaim := { program := "ytgjkjndfnjabeaa", sum := "4f04e2e41d5c19be34c52adc68efc016bfa200f126ba56d1552e791658dc8256", func := "stepladder/stepladderlaw16.InfixOnce", spec := "infixOnce", unfollowed := true, recurses := true, apart := false, narrowed := true }
def InfixOnceUptoSaid : Prop := infixOnceUptoRow.holds Try.pinned (OpenSpec.upto infixOnceSpec)

/-- 'stepladderlaw16.InfixPrefix', WHERE WHAT IT READS IS OF BULK AT MOST 1048576: true; the input reads as it did. -/
def infixPrefixUptoRow : OpenClaim := { program := "ytgjkjndfnjabeaa", sum := "4f04e2e41d5c19be34c52adc68efc016bfa200f126ba56d1552e791658dc8256", func := "stepladder/stepladderlaw16.InfixPrefix", spec := "infixPrefix", unfollowed := true, recurses := true, apart := false, narrowed := true }
def InfixPrefixUptoSaid : Prop := infixPrefixUptoRow.holds Try.pinned (OpenSpec.upto infixPrefixSpec)

end Rows
end Go.Proofs.Ytgjkjndfnjabeaa
