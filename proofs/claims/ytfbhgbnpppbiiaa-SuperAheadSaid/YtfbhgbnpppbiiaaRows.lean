/-
  No cell of these rows narrows 'for every input' (looked for: loops, veiled, ifaces, maps, wideKeys, modest, calm, conditions, laid).
  DERIVED. THE GIVEN ROWS OF THIS SEAT. 11 by the template 'for every input the law returns true; each argument reads behind the call as it read before'; 0 by the template 'total and deterministic' (their statements: YtfbhgbnpppbiiaaTotals.lean).
  GIVEN WITH THE SEED: the statements are not yours to turn. If you find one false, say at which input.
  Laid BY PROGRAM, IN A SANDBOX (cutbox-rows.mjs): the forced cells as the released guide's own fill.sh prints them over the translation f589bba9f255aa3a… (all of the seat's roots in one cut). By AI agents, Wed Nov 11 2026. No macro, syntax, notation, axiom, sorry.
-/
import Derived.Test.YtfbhgbnpppbiiaaChecked
import GoSem.Claim
import GoSem.ClaimJoined
import GoSem.ClaimMapViews
import Derived.JoinedTies
import Derived.KernelRfl
namespace Go.Proofs.Ytfbhgbnpppbiiaa
/- THE CELL 'sum', in the pinned program and in every row, IS THE sha256 OF THE DUMP (.gsa) THAT YtfbhgbnpppbiiaaProg.lean LOADS. Nothing in Lean hashes anything: it is a label: what it is worth is what the hold of that sum in a sandbox is worth. -/
noncomputable def Try.pinned : Pinned := { name := "ytfbhgbnpppbiiaa", sum := "f589bba9f255aa3aceec9d7d3bf1c43cf849cde37f8821d4cdaaca0ceff76080", checked := Try.checked }
namespace Rows
def none {H : Type} : Left H := { results := [], args := [] }

/-- 'stepladderlaw15.GoodTells': WHATEVER THE INPUT: true; the input reads as it did. -/
def goodTellsSpec : ChangeSpec := { name := "goodTells", fn := fun _ => fun
  | [d1, d2, d3, d4] => { results := [.lit (.bool true)], args := [d1, d2, d3, d4] }
  | _ => none }
def goodTellsRow : OpenClaim := { program := "ytfbhgbnpppbiiaa", sum := "f589bba9f255aa3aceec9d7d3bf1c43cf849cde37f8821d4cdaaca0ceff76080", func := "stepladder/stepladderlaw15.GoodTells", spec := "goodTells", unfollowed := true, recurses := true, apart := false }
def GoodTellsSaid : Prop := goodTellsRow.holds Try.pinned (OpenSpec.ofChange goodTellsSpec)

/-- ITS FALSE NEIGHBOUR: 'it returns false'. Refute it at one input. -/
def goodTellsWrong : ChangeSpec := { name := "goodTells", fn := fun _ => fun
  | [d1, d2, d3, d4] => { results := [.lit (.bool false)], args := [d1, d2, d3, d4] }
  | _ => none }
def GoodTellsWrongFalsely : Prop := goodTellsRow.holds Try.pinned (OpenSpec.ofChange goodTellsWrong)

/-- 'stepladderlaw15.GoodMore': WHATEVER THE INPUT: true; the input reads as it did. -/
def goodMoreSpec : ChangeSpec := { name := "goodMore", fn := fun _ => fun
  | [d1, d2, d3, d4] => { results := [.lit (.bool true)], args := [d1, d2, d3, d4] }
  | _ => none }
def goodMoreRow : OpenClaim := { program := "ytfbhgbnpppbiiaa", sum := "f589bba9f255aa3aceec9d7d3bf1c43cf849cde37f8821d4cdaaca0ceff76080", func := "stepladder/stepladderlaw15.GoodMore", spec := "goodMore", unfollowed := true, recurses := true, apart := false }
def GoodMoreSaid : Prop := goodMoreRow.holds Try.pinned (OpenSpec.ofChange goodMoreSpec)

/-- ITS FALSE NEIGHBOUR: 'it returns false'. Refute it at one input. -/
def goodMoreWrong : ChangeSpec := { name := "goodMore", fn := fun _ => fun
  | [d1, d2, d3, d4] => { results := [.lit (.bool false)], args := [d1, d2, d3, d4] }
  | _ => none }
def GoodMoreWrongFalsely : Prop := goodMoreRow.holds Try.pinned (OpenSpec.ofChange goodMoreWrong)

/-- 'stepladderlaw15.GoodCount': WHATEVER THE INPUT: true; the input reads as it did. -/
def goodCountSpec : ChangeSpec := { name := "goodCount", fn := fun _ => fun
  | [d1, d2, d3, d4, d5] => { results := [.lit (.bool true)], args := [d1, d2, d3, d4, d5] }
  | _ => none }
def goodCountRow : OpenClaim := { program := "ytfbhgbnpppbiiaa", sum := "f589bba9f255aa3aceec9d7d3bf1c43cf849cde37f8821d4cdaaca0ceff76080", func := "stepladder/stepladderlaw15.GoodCount", spec := "goodCount", unfollowed := true, recurses := true, apart := false }
def GoodCountSaid : Prop := goodCountRow.holds Try.pinned (OpenSpec.ofChange goodCountSpec)

/-- ITS FALSE NEIGHBOUR: 'it returns false'. Refute it at one input. -/
def goodCountWrong : ChangeSpec := { name := "goodCount", fn := fun _ => fun
  | [d1, d2, d3, d4, d5] => { results := [.lit (.bool false)], args := [d1, d2, d3, d4, d5] }
  | _ => none }
def GoodCountWrongFalsely : Prop := goodCountRow.holds Try.pinned (OpenSpec.ofChange goodCountWrong)

/-- 'stepladderlaw15.GoodFlat': WHATEVER THE INPUT: true; the input reads as it did. -/
def goodFlatSpec : ChangeSpec := { name := "goodFlat", fn := fun _ => fun
  | [d1, d2] => { results := [.lit (.bool true)], args := [d1, d2] }
  | _ => none }
def goodFlatRow : OpenClaim := { program := "ytfbhgbnpppbiiaa", sum := "f589bba9f255aa3aceec9d7d3bf1c43cf849cde37f8821d4cdaaca0ceff76080", func := "stepladder/stepladderlaw15.GoodFlat", spec := "goodFlat", unfollowed := true, recurses := true, apart := false }
def GoodFlatSaid : Prop := goodFlatRow.holds Try.pinned (OpenSpec.ofChange goodFlatSpec)

/-- ITS FALSE NEIGHBOUR: 'it returns false'. Refute it at one input. -/
def goodFlatWrong : ChangeSpec := { name := "goodFlat", fn := fun _ => fun
  | [d1, d2] => { results := [.lit (.bool false)], args := [d1, d2] }
  | _ => none }
def GoodFlatWrongFalsely : Prop := goodFlatRow.holds Try.pinned (OpenSpec.ofChange goodFlatWrong)

/-- 'stepladderlaw15.GoodFair': WHATEVER THE INPUT: true; the input reads as it did. -/
def goodFairSpec : ChangeSpec := { name := "goodFair", fn := fun _ => fun
  | [d1, d2, d3, d4] => { results := [.lit (.bool true)], args := [d1, d2, d3, d4] }
  | _ => none }
def goodFairRow : OpenClaim := { program := "ytfbhgbnpppbiiaa", sum := "f589bba9f255aa3aceec9d7d3bf1c43cf849cde37f8821d4cdaaca0ceff76080", func := "stepladder/stepladderlaw15.GoodFair", spec := "goodFair", unfollowed := true, recurses := true, apart := false }
def GoodFairSaid : Prop := goodFairRow.holds Try.pinned (OpenSpec.ofChange goodFairSpec)

/-- ITS FALSE NEIGHBOUR: 'it returns false'. Refute it at one input. -/
def goodFairWrong : ChangeSpec := { name := "goodFair", fn := fun _ => fun
  | [d1, d2, d3, d4] => { results := [.lit (.bool false)], args := [d1, d2, d3, d4] }
  | _ => none }
def GoodFairWrongFalsely : Prop := goodFairRow.holds Try.pinned (OpenSpec.ofChange goodFairWrong)

/-- 'stepladderlaw14.SuperLast': WHATEVER THE INPUT: true; the input reads as it did. -/
def superLastSpec : ChangeSpec := { name := "superLast", fn := fun _ => fun
  | [d1, d2, d3, d4] => { results := [.lit (.bool true)], args := [d1, d2, d3, d4] }
  | _ => none }
def superLastRow : OpenClaim := { program := "ytfbhgbnpppbiiaa", sum := "f589bba9f255aa3aceec9d7d3bf1c43cf849cde37f8821d4cdaaca0ceff76080", func := "stepladder/stepladderlaw14.SuperLast", spec := "superLast", unfollowed := true, recurses := true, apart := false }
def SuperLastSaid : Prop := superLastRow.holds Try.pinned (OpenSpec.ofChange superLastSpec)

/-- ITS FALSE NEIGHBOUR: 'it returns false'. Refute it at one input. -/
def superLastWrong : ChangeSpec := { name := "superLast", fn := fun _ => fun
  | [d1, d2, d3, d4] => { results := [.lit (.bool false)], args := [d1, d2, d3, d4] }
  | _ => none }
def SuperLastWrongFalsely : Prop := superLastRow.holds Try.pinned (OpenSpec.ofChange superLastWrong)

/-- 'stepladderlaw14.SuperSize': WHATEVER THE INPUT: true; the input reads as it did. -/
def superSizeSpec : ChangeSpec := { name := "superSize", fn := fun _ => fun
  | [d1, d2, d3, d4] => { results := [.lit (.bool true)], args := [d1, d2, d3, d4] }
  | _ => none }
def superSizeRow : OpenClaim := { program := "ytfbhgbnpppbiiaa", sum := "f589bba9f255aa3aceec9d7d3bf1c43cf849cde37f8821d4cdaaca0ceff76080", func := "stepladder/stepladderlaw14.SuperSize", spec := "superSize", unfollowed := true, recurses := true, apart := false }
def SuperSizeSaid : Prop := superSizeRow.holds Try.pinned (OpenSpec.ofChange superSizeSpec)

/-- ITS FALSE NEIGHBOUR: 'it returns false'. Refute it at one input. -/
def superSizeWrong : ChangeSpec := { name := "superSize", fn := fun _ => fun
  | [d1, d2, d3, d4] => { results := [.lit (.bool false)], args := [d1, d2, d3, d4] }
  | _ => none }
def SuperSizeWrongFalsely : Prop := superSizeRow.holds Try.pinned (OpenSpec.ofChange superSizeWrong)

/-- 'stepladderlaw14.SuperMore': WHATEVER THE INPUT: true; the input reads as it did. -/
def superMoreSpec : ChangeSpec := { name := "superMore", fn := fun _ => fun
  | [d1, d2, d3, d4] => { results := [.lit (.bool true)], args := [d1, d2, d3, d4] }
  | _ => none }
def superMoreRow : OpenClaim := { program := "ytfbhgbnpppbiiaa", sum := "f589bba9f255aa3aceec9d7d3bf1c43cf849cde37f8821d4cdaaca0ceff76080", func := "stepladder/stepladderlaw14.SuperMore", spec := "superMore", unfollowed := true, recurses := true, apart := false }
def SuperMoreSaid : Prop := superMoreRow.holds Try.pinned (OpenSpec.ofChange superMoreSpec)

/-- ITS FALSE NEIGHBOUR: 'it returns false'. Refute it at one input. -/
def superMoreWrong : ChangeSpec := { name := "superMore", fn := fun _ => fun
  | [d1, d2, d3, d4] => { results := [.lit (.bool false)], args := [d1, d2, d3, d4] }
  | _ => none }
def SuperMoreWrongFalsely : Prop := superMoreRow.holds Try.pinned (OpenSpec.ofChange superMoreWrong)

/-- 'stepladderlaw14.SuperAll': WHATEVER THE INPUT: true; the input reads as it did. -/
def superAllSpec : ChangeSpec := { name := "superAll", fn := fun _ => fun
  | [d1, d2, d3, d4, d5, d6] => { results := [.lit (.bool true)], args := [d1, d2, d3, d4, d5, d6] }
  | _ => none }
def superAllRow : OpenClaim := { program := "ytfbhgbnpppbiiaa", sum := "f589bba9f255aa3aceec9d7d3bf1c43cf849cde37f8821d4cdaaca0ceff76080", func := "stepladder/stepladderlaw14.SuperAll", spec := "superAll", unfollowed := true, recurses := true, apart := false }
def SuperAllSaid : Prop := superAllRow.holds Try.pinned (OpenSpec.ofChange superAllSpec)

/-- ITS FALSE NEIGHBOUR: 'it returns false'. Refute it at one input. -/
def superAllWrong : ChangeSpec := { name := "superAll", fn := fun _ => fun
  | [d1, d2, d3, d4, d5, d6] => { results := [.lit (.bool false)], args := [d1, d2, d3, d4, d5, d6] }
  | _ => none }
def SuperAllWrongFalsely : Prop := superAllRow.holds Try.pinned (OpenSpec.ofChange superAllWrong)

/-- 'stepladderlaw14.SuperAhead': WHATEVER THE INPUT: true; the input reads as it did. -/
def superAheadSpec : ChangeSpec := { name := "superAhead", fn := fun _ => fun
  | [d1, d2, d3, d4, d5] => { results := [.lit (.bool true)], args := [d1, d2, d3, d4, d5] }
  | _ => none }
def superAheadRow : OpenClaim := { program := "ytfbhgbnpppbiiaa", sum := "f589bba9f255aa3aceec9d7d3bf1c43cf849cde37f8821d4cdaaca0ceff76080", func := "stepladder/stepladderlaw14.SuperAhead", spec := "superAhead", unfollowed := true, recurses := true, apart := false }
def SuperAheadSaid : Prop := superAheadRow.holds Try.pinned (OpenSpec.ofChange superAheadSpec)

/-- ITS FALSE NEIGHBOUR: 'it returns false'. Refute it at one input. -/
def superAheadWrong : ChangeSpec := { name := "superAhead", fn := fun _ => fun
  | [d1, d2, d3, d4, d5] => { results := [.lit (.bool false)], args := [d1, d2, d3, d4, d5] }
  | _ => none }
def SuperAheadWrongFalsely : Prop := superAheadRow.holds Try.pinned (OpenSpec.ofChange superAheadWrong)

/-- 'stepladderlaw14.SuperFrom': WHATEVER THE INPUT: true; the input reads as it did. -/
def superFromSpec : ChangeSpec := { name := "superFrom", fn := fun _ => fun
  | [d1, d2, d3, d4] => { results := [.lit (.bool true)], args := [d1, d2, d3, d4] }
  | _ => none }
def superFromRow : OpenClaim := { program := "ytfbhgbnpppbiiaa", sum := "f589bba9f255aa3aceec9d7d3bf1c43cf849cde37f8821d4cdaaca0ceff76080", func := "stepladder/stepladderlaw14.SuperFrom", spec := "superFrom", unfollowed := true, recurses := true, apart := false }
def SuperFromSaid : Prop := superFromRow.holds Try.pinned (OpenSpec.ofChange superFromSpec)

/-- ITS FALSE NEIGHBOUR: 'it returns false'. Refute it at one input. -/
def superFromWrong : ChangeSpec := { name := "superFrom", fn := fun _ => fun
  | [d1, d2, d3, d4] => { results := [.lit (.bool false)], args := [d1, d2, d3, d4] }
  | _ => none }
def SuperFromWrongFalsely : Prop := superFromRow.holds Try.pinned (OpenSpec.ofChange superFromWrong)

/- THE SECOND FORM. 'bulk': how many values and letters a reading holds, each counted each time it is reached (what is shared counts as often as it is met; a slice's spare places count too). A statement '..UptoSaid' is the law's where the arguments, and the package variables that the reading takes, are together of bulk at most 1048576: NARROWER than '..Said'. Prove '..Said' where nothing that the law and all that it calls make is longer than what came in: it says more and counts as full. Else prove '..UptoSaid'. A law counts once. -/
mutual
def uptoBulk {H : Type} : DataW H → Nat
  | .lit (.string bytes) => bytes.length + 1
  | .lit _ => 1
  | .nil => 1
  | .ptr d => uptoBulk d + 1
  | .slice elems spare => uptoBulkAll elems + uptoBulkAll spare + 1
  | .agg parts => uptoBulkAll parts + 1
  | .iface _ d => uptoBulk d + 1
  | .map entries => uptoBulkEntries entries + 1
  | .held _ => 1
def uptoBulkAll {H : Type} : List (DataW H) → Nat
  | [] => 0
  | d :: r => uptoBulk d + uptoBulkAll r
def uptoBulkEntries {H : Type} : List (Lit × DataW H) → Nat
  | [] => 0
  | x :: r => uptoBulkEntry x + uptoBulkEntries r
def uptoBulkEntry {H : Type} : Lit × DataW H → Nat
  | (.string bytes, d) => bytes.length + uptoBulk d + 1
  | (_, d) => uptoBulk d + 1
 end
def uptoSmall : (H : Type) → List (DataW H) → Bool := fun _ ds => decide (uptoBulkAll ds ≤ 1048576)
def OpenSpec.upto (s : _root_.Go.ChangeSpec) : _root_.Go.OpenSpec := { _root_.Go.OpenSpec.ofChange s with cond := some uptoSmall }

/-- 'stepladderlaw15.GoodTells', WHERE WHAT IT READS IS OF BULK AT MOST 1048576: true; the input reads as it did. -/
def goodTellsUptoRow : OpenClaim := { program := "ytfbhgbnpppbiiaa", sum := "f589bba9f255aa3aceec9d7d3bf1c43cf849cde37f8821d4cdaaca0ceff76080", func := "stepladder/stepladderlaw15.GoodTells", spec := "goodTells", unfollowed := true, recurses := true, apart := false, narrowed := true }
def GoodTellsUptoSaid : Prop := goodTellsUptoRow.holds Try.pinned (OpenSpec.upto goodTellsSpec)

/-- 'stepladderlaw15.GoodMore', WHERE WHAT IT READS IS OF BULK AT MOST 1048576: true; the input reads as it did. -/
def goodMoreUptoRow : OpenClaim := { program := "ytfbhgbnpppbiiaa", sum := "f589bba9f255aa3aceec9d7d3bf1c43cf849cde37f8821d4cdaaca0ceff76080", func := "stepladder/stepladderlaw15.GoodMore", spec := "goodMore", unfollowed := true, recurses := true, apart := false, narrowed := true }
def GoodMoreUptoSaid : Prop := goodMoreUptoRow.holds Try.pinned (OpenSpec.upto goodMoreSpec)

/-- 'stepladderlaw15.GoodCount', WHERE WHAT IT READS IS OF BULK AT MOST 1048576: true; the input reads as it did. -/
def goodCountUptoRow : OpenClaim := { program := "ytfbhgbnpppbiiaa", sum := "f589bba9f255aa3aceec9d7d3bf1c43cf849cde37f8821d4cdaaca0ceff76080", func := "stepladder/stepladderlaw15.GoodCount", spec := "goodCount", unfollowed := true, recurses := true, apart := false, narrowed := true }
def GoodCountUptoSaid : Prop := goodCountUptoRow.holds Try.pinned (OpenSpec.upto goodCountSpec)

/-- 'stepladderlaw15.GoodFlat', WHERE WHAT IT READS IS OF BULK AT MOST 1048576: true; the input reads as it did. -/
def goodFlatUptoRow : OpenClaim := { program := "ytfbhgbnpppbiiaa", sum := "f589bba9f255aa3aceec9d7d3bf1c43cf849cde37f8821d4cdaaca0ceff76080", func := "stepladder/stepladderlaw15.GoodFlat", spec := "goodFlat", unfollowed := true, recurses := true, apart := false, narrowed := true }
def GoodFlatUptoSaid : Prop := goodFlatUptoRow.holds Try.pinned (OpenSpec.upto goodFlatSpec)

/-- 'stepladderlaw15.GoodFair', WHERE WHAT IT READS IS OF BULK AT MOST 1048576: true; the input reads as it did. -/
def goodFairUptoRow : OpenClaim := { program := "ytfbhgbnpppbiiaa", sum := "f589bba9f255aa3aceec9d7d3bf1c43cf849cde37f8821d4cdaaca0ceff76080", func := "stepladder/stepladderlaw15.GoodFair", spec := "goodFair", unfollowed := true, recurses := true, apart := false, narrowed := true }
def GoodFairUptoSaid : Prop := goodFairUptoRow.holds Try.pinned (OpenSpec.upto goodFairSpec)

/-- 'stepladderlaw14.SuperLast', WHERE WHAT IT READS IS OF BULK AT MOST 1048576: true; the input reads as it did. -/
def superLastUptoRow : OpenClaim := { program := "ytfbhgbnpppbiiaa", sum := "f589bba9f255aa3aceec9d7d3bf1c43cf849cde37f8821d4cdaaca0ceff76080", func := "stepladder/stepladderlaw14.SuperLast", spec := "superLast", unfollowed := true, recurses := true, apart := false, narrowed := true }
def SuperLastUptoSaid : Prop := superLastUptoRow.holds Try.pinned (OpenSpec.upto superLastSpec)

/-- 'stepladderlaw14.SuperSize', WHERE WHAT IT READS IS OF BULK AT MOST 1048576: true; the input reads as it did. -/
def superSizeUptoRow : OpenClaim := { program := "ytfbhgbnpppbiiaa", sum := "f589bba9f255aa3aceec9d7d3bf1c43cf849cde37f8821d4cdaaca0ceff76080", func := "stepladder/stepladderlaw14.SuperSize", spec := "superSize", unfollowed := true, recurses := true, apart := false, narrowed := true }
def SuperSizeUptoSaid : Prop := superSizeUptoRow.holds Try.pinned (OpenSpec.upto superSizeSpec)

/-- 'stepladderlaw14.SuperMore', WHERE WHAT IT READS IS OF BULK AT MOST 1048576: true; the input reads as it did. -/
def superMoreUptoRow : OpenClaim := { program := "ytfbhgbnpppbiiaa", sum := "f589bba9f255aa3aceec9d7d3bf1c43cf849cde37f8821d4cdaaca0ceff76080", func := "stepladder/stepladderlaw14.SuperMore", spec := "superMore", unfollowed := true, recurses := true, apart := false, narrowed := true }
def SuperMoreUptoSaid : Prop := superMoreUptoRow.holds Try.pinned (OpenSpec.upto superMoreSpec)

/-- 'stepladderlaw14.SuperAll', WHERE WHAT IT READS IS OF BULK AT MOST 1048576: true; the input reads as it did. -/
def superAllUptoRow : OpenClaim := { program := "ytfbhgbnpppbiiaa", sum := "f589bba9f255aa3aceec9d7d3bf1c43cf849cde37f8821d4cdaaca0ceff76080", func := "stepladder/stepladderlaw14.SuperAll", spec := "superAll", unfollowed := true, recurses := true, apart := false, narrowed := true }
def SuperAllUptoSaid : Prop := superAllUptoRow.holds Try.pinned (OpenSpec.upto superAllSpec)

/-- 'stepladderlaw14.SuperAhead', WHERE WHAT IT READS IS OF BULK AT MOST 1048576: true; the input reads as it did. -/
def superAheadUptoRow : OpenClaim := { program := "ytfbhgbnpppbiiaa", sum := "f589bba9f255aa3aceec9d7d3bf1c43cf849cde37f8821d4cdaaca0ceff76080", func := "stepladder/stepladderlaw14.SuperAhead", spec := "superAhead", unfollowed := true, recurses := true, apart := false, narrowed := true }
def SuperAheadUptoSaid : Prop := superAheadUptoRow.holds Try.pinned (OpenSpec.upto superAheadSpec)

/-- 'stepladderlaw14.SuperFrom', WHERE WHAT IT READS IS OF BULK AT MOST 1048576: true; the input reads as it did. -/
def superFromUptoRow : OpenClaim := { program := "ytfbhgbnpppbiiaa", sum := "f589bba9f255aa3aceec9d7d3bf1c43cf849cde37f8821d4cdaaca0ceff76080", func := "stepladder/stepladderlaw14.SuperFrom", spec := "superFrom", unfollowed := true, recurses := true, apart := false, narrowed := true }
def SuperFromUptoSaid : Prop := superFromUptoRow.holds Try.pinned (OpenSpec.upto superFromSpec)

end Rows
end Go.Proofs.Ytfbhgbnpppbiiaa
