/-
  No cell of these rows narrows 'for every input' (looked for: loops, veiled, ifaces, maps, wideKeys, modest, calm, conditions, laid).
  DERIVED. THE GIVEN ROWS OF THIS SEAT. 7 by the template 'for every input the law returns true; each argument reads behind the call as it read before'; 0 by the template 'total and deterministic' (their statements: YteekdggainficaaTotals.lean).
  GIVEN WITH THE SEED: the statements are not yours to turn. If you find one false, say at which input.
  Laid BY PROGRAM, IN A SANDBOX (cutbox-rows.mjs): the forced cells as the released guide's own fill.sh prints them over the translation 36d94a2875f123e4… (all of the seat's roots in one cut). By AI agents, Wed Nov 11 2026. No macro, syntax, notation, axiom, sorry.
-/
import Derived.Test.YteekdggainficaaChecked
import GoSem.Claim
import GoSem.ClaimJoined
import GoSem.ClaimMapViews
import Derived.JoinedTies
import Derived.KernelRfl
namespace Go.Proofs.Yteekdggainficaa
/- THE CELL 'sum', in the pinned program and in every row, IS THE sha256 OF THE DUMP (.gsa) THAT YteekdggainficaaProg.lean LOADS. Nothing in Lean hashes anything: it is a label: what it is worth is what the hold of that sum in a sandbox is worth. -/
noncomputable def Try.pinned : Pinned := { name := "yteekdggainficaa", sum := "36d94a2875f123e41f9c00be3735c5fdd26dd5bc573a638f387daf9172c5e5f0", checked := Try.checked }
namespace Rows
def none {H : Type} : Left H := { results := [], args := [] }

/-- 'stepladderlaw21.VelvetTells': WHATEVER THE INPUT: true; the input reads as it did. -/
def velvetTellsSpec : ChangeSpec := { name := "velvetTells", fn := fun _ => fun
  | [d1, d2, d3, d4] => { results := [.lit (.bool true)], args := [d1, d2, d3, d4] }
  | _ => none }
def velvetTellsRow : OpenClaim := { program := "yteekdggainficaa", sum := "36d94a2875f123e41f9c00be3735c5fdd26dd5bc573a638f387daf9172c5e5f0", func := "stepladder/stepladderlaw21.VelvetTells", spec := "velvetTells", unfollowed := true, recurses := true, apart := false }
def VelvetTellsSaid : Prop := velvetTellsRow.holds Try.pinned (OpenSpec.ofChange velvetTellsSpec)

/-- ITS FALSE NEIGHBOUR: 'it returns false'. Refute it at one input. -/
def velvetTellsWrong : ChangeSpec := { name := "velvetTells", fn := fun _ => fun
  | [d1, d2, d3, d4] => { results := [.lit (.bool false)], args := [d1, d2, d3, d4] }
  | _ => none }
def VelvetTellsWrongFalsely : Prop := velvetTellsRow.holds Try.pinned (OpenSpec.ofChange velvetTellsWrong)

/-- 'stepladderlaw21.VelvetSmooth': WHATEVER THE INPUT: true; the input reads as it did. -/
def velvetSmoothSpec : ChangeSpec := { name := "velvetSmooth", fn := fun _ => fun
  | [d1, d2, d3, d4] => { results := [.lit (.bool true)], args := [d1, d2, d3, d4] }
  | _ => none }
def velvetSmoothRow : OpenClaim := { program := "yteekdggainficaa", sum := "36d94a2875f123e41f9c00be3735c5fdd26dd5bc573a638f387daf9172c5e5f0", func := "stepladder/stepladderlaw21.VelvetSmooth", spec := "velvetSmooth", unfollowed := true, recurses := true, apart := false }
def VelvetSmoothSaid : Prop := velvetSmoothRow.holds Try.pinned (OpenSpec.ofChange velvetSmoothSpec)

/-- ITS FALSE NEIGHBOUR: 'it returns false'. Refute it at one input. -/
def velvetSmoothWrong : ChangeSpec := { name := "velvetSmooth", fn := fun _ => fun
  | [d1, d2, d3, d4] => { results := [.lit (.bool false)], args := [d1, d2, d3, d4] }
  | _ => none }
def VelvetSmoothWrongFalsely : Prop := velvetSmoothRow.holds Try.pinned (OpenSpec.ofChange velvetSmoothWrong)

/-- 'stepladderlaw21.VelvetAll': WHATEVER THE INPUT: true; the input reads as it did. -/
def velvetAllSpec : ChangeSpec := { name := "velvetAll", fn := fun _ => fun
  | [d1, d2, d3] => { results := [.lit (.bool true)], args := [d1, d2, d3] }
  | _ => none }
def velvetAllRow : OpenClaim := { program := "yteekdggainficaa", sum := "36d94a2875f123e41f9c00be3735c5fdd26dd5bc573a638f387daf9172c5e5f0", func := "stepladder/stepladderlaw21.VelvetAll", spec := "velvetAll", unfollowed := true, recurses := true, apart := false }
def VelvetAllSaid : Prop := velvetAllRow.holds Try.pinned (OpenSpec.ofChange velvetAllSpec)

/-- ITS FALSE NEIGHBOUR: 'it returns false'. Refute it at one input. -/
def velvetAllWrong : ChangeSpec := { name := "velvetAll", fn := fun _ => fun
  | [d1, d2, d3] => { results := [.lit (.bool false)], args := [d1, d2, d3] }
  | _ => none }
def VelvetAllWrongFalsely : Prop := velvetAllRow.holds Try.pinned (OpenSpec.ofChange velvetAllWrong)

/-- 'stepladderlaw21.VelvetOthers': WHATEVER THE INPUT: true; the input reads as it did. -/
def velvetOthersSpec : ChangeSpec := { name := "velvetOthers", fn := fun _ => fun
  | [d1, d2, d3] => { results := [.lit (.bool true)], args := [d1, d2, d3] }
  | _ => none }
def velvetOthersRow : OpenClaim := { program := "yteekdggainficaa", sum := "36d94a2875f123e41f9c00be3735c5fdd26dd5bc573a638f387daf9172c5e5f0", func := "stepladder/stepladderlaw21.VelvetOthers", spec := "velvetOthers", unfollowed := true, recurses := true, apart := false }
def VelvetOthersSaid : Prop := velvetOthersRow.holds Try.pinned (OpenSpec.ofChange velvetOthersSpec)

/-- ITS FALSE NEIGHBOUR: 'it returns false'. Refute it at one input. -/
def velvetOthersWrong : ChangeSpec := { name := "velvetOthers", fn := fun _ => fun
  | [d1, d2, d3] => { results := [.lit (.bool false)], args := [d1, d2, d3] }
  | _ => none }
def VelvetOthersWrongFalsely : Prop := velvetOthersRow.holds Try.pinned (OpenSpec.ofChange velvetOthersWrong)

/-- 'stepladderlaw21.VelvetLinks': WHATEVER THE INPUT: true; the input reads as it did. -/
def velvetLinksSpec : ChangeSpec := { name := "velvetLinks", fn := fun _ => fun
  | [d1, d2] => { results := [.lit (.bool true)], args := [d1, d2] }
  | _ => none }
def velvetLinksRow : OpenClaim := { program := "yteekdggainficaa", sum := "36d94a2875f123e41f9c00be3735c5fdd26dd5bc573a638f387daf9172c5e5f0", func := "stepladder/stepladderlaw21.VelvetLinks", spec := "velvetLinks", unfollowed := true, recurses := true, apart := false }
def VelvetLinksSaid : Prop := velvetLinksRow.holds Try.pinned (OpenSpec.ofChange velvetLinksSpec)

/-- ITS FALSE NEIGHBOUR: 'it returns false'. Refute it at one input. -/
def velvetLinksWrong : ChangeSpec := { name := "velvetLinks", fn := fun _ => fun
  | [d1, d2] => { results := [.lit (.bool false)], args := [d1, d2] }
  | _ => none }
def VelvetLinksWrongFalsely : Prop := velvetLinksRow.holds Try.pinned (OpenSpec.ofChange velvetLinksWrong)

/-- 'stepladderlaw21.VelvetNone': WHATEVER THE INPUT: true; the input reads as it did. -/
def velvetNoneSpec : ChangeSpec := { name := "velvetNone", fn := fun _ => fun
  | [d1, d2, d3] => { results := [.lit (.bool true)], args := [d1, d2, d3] }
  | _ => none }
def velvetNoneRow : OpenClaim := { program := "yteekdggainficaa", sum := "36d94a2875f123e41f9c00be3735c5fdd26dd5bc573a638f387daf9172c5e5f0", func := "stepladder/stepladderlaw21.VelvetNone", spec := "velvetNone", unfollowed := true, recurses := true, apart := false }
def VelvetNoneSaid : Prop := velvetNoneRow.holds Try.pinned (OpenSpec.ofChange velvetNoneSpec)

/-- ITS FALSE NEIGHBOUR: 'it returns false'. Refute it at one input. -/
def velvetNoneWrong : ChangeSpec := { name := "velvetNone", fn := fun _ => fun
  | [d1, d2, d3] => { results := [.lit (.bool false)], args := [d1, d2, d3] }
  | _ => none }
def VelvetNoneWrongFalsely : Prop := velvetNoneRow.holds Try.pinned (OpenSpec.ofChange velvetNoneWrong)

/-- 'stepladderlaw21.VelvetCut': WHATEVER THE INPUT: true; the input reads as it did. -/
def velvetCutSpec : ChangeSpec := { name := "velvetCut", fn := fun _ => fun
  | [d1, d2] => { results := [.lit (.bool true)], args := [d1, d2] }
  | _ => none }
def velvetCutRow : OpenClaim := { program := "yteekdggainficaa", sum := "36d94a2875f123e41f9c00be3735c5fdd26dd5bc573a638f387daf9172c5e5f0", func := "stepladder/stepladderlaw21.VelvetCut", spec := "velvetCut", unfollowed := true, recurses := true, apart := false }
def VelvetCutSaid : Prop := velvetCutRow.holds Try.pinned (OpenSpec.ofChange velvetCutSpec)

/-- ITS FALSE NEIGHBOUR: 'it returns false'. Refute it at one input. -/
def velvetCutWrong : ChangeSpec := { name := "velvetCut", fn := fun _ => fun
  | [d1, d2] => { results := [.lit (.bool false)], args := [d1, d2] }
  | _ => none }
def VelvetCutWrongFalsely : Prop := velvetCutRow.holds Try.pinned (OpenSpec.ofChange velvetCutWrong)

/- THE SECOND FORM. 'bulk': how many values and letters a reading holds, each counted each time it is reached (what is shared counts as often as it is met; a slice's spare places count too). A statement '..UptoSaid' is the law's where the arguments, and the package variables that the reading takes, are together of bulk at most 1048576: NARROWER than '..Said'. Prove '..Said' where nothing that the law and all that it calls make is longer than what came in: it says more and counts as full. Else prove '..UptoSaid'. A law counts once. -/
mutual
def uptoBulk {H : Type} : DataW H → Nat
  | .lit (.string bytes) => bytes.length + 1
  | .lit _ => 1
  | .nil => 1
  | .ptr d => uptoBulk d + 1
  | .slice elems spare => uptoBulkAll elems + uptoBulkAll spare + 1
  | .agg parts => uptoBulkAll parts + 1
  | .iface _ d => uptoBulk d + 1
  | .map entries => uptoBulkEntries entries + 1
  | .held _ => 1
def uptoBulkAll {H : Type} : List (DataW H) → Nat
  | [] => 0
  | d :: r => uptoBulk d + uptoBulkAll r
def uptoBulkEntries {H : Type} : List (Lit × DataW H) → Nat
  | [] => 0
  | x :: r => uptoBulkEntry x + uptoBulkEntries r
def uptoBulkEntry {H : Type} : Lit × DataW H → Nat
  | (.string bytes, d) => bytes.length + uptoBulk d + 1
  | (_, d) => uptoBulk d + 1
 end
def uptoSmall : (H : Type) → List (DataW H) → Bool := fun _ ds => decide (uptoBulkAll ds ≤ 1048576)
def OpenSpec.upto (s : _root_.Go.ChangeSpec) : _root_.Go.OpenSpec := { _root_.Go.OpenSpec.ofChange s with cond := some uptoSmall }

/-- 'stepladderlaw21.VelvetTells', WHERE WHAT IT READS IS OF BULK AT MOST 1048576: true; the input reads as it did. -/
def velvetTellsUptoRow : OpenClaim := { program := "yteekdggainficaa", sum := "36d94a2875f123e41f9c00be3735c5fdd26dd5bc573a638f387daf9172c5e5f0", func := "stepladder/stepladderlaw21.VelvetTells", spec := "velvetTells", unfollowed := true, recurses := true, apart := false, narrowed := true }
def VelvetTellsUptoSaid : Prop := velvetTellsUptoRow.holds Try.pinned (OpenSpec.upto velvetTellsSpec)

/-- 'stepladderlaw21.VelvetSmooth', WHERE WHAT IT READS IS OF BULK AT MOST 1048576: true; the input reads as it did. -/
def velvetSmoothUptoRow : OpenClaim := { program := "yteekdggainficaa", sum := "36d94a2875f123e41f9c00be3735c5fdd26dd5bc573a638f387daf9172c5e5f0", func := "stepladder/stepladderlaw21.VelvetSmooth", spec := "velvetSmooth", unfollowed := true, recurses := true, apart := false, narrowed := true }
def VelvetSmoothUptoSaid : Prop := velvetSmoothUptoRow.holds Try.pinned (OpenSpec.upto velvetSmoothSpec)

/-- 'stepladderlaw21.VelvetAll', WHERE WHAT IT READS IS OF BULK AT MOST 1048576: true; the input reads as it did. -/
def velvetAllUptoRow : OpenClaim := { program := "yteekdggainficaa", sum := "36d94a2875f123e41f9c00be3735c5fdd26dd5bc573a638f387daf9172c5e5f0", func := "stepladder/stepladderlaw21.VelvetAll", spec := "velvetAll", unfollowed := true, recurses := true, apart := false, narrowed := true }
def VelvetAllUptoSaid : Prop := velvetAllUptoRow.holds Try.pinned (OpenSpec.upto velvetAllSpec)

/-- 'stepladderlaw21.VelvetOthers', WHERE WHAT IT READS IS OF BULK AT MOST 1048576: true; the input reads as it did. -/
def velvetOthersUptoRow : OpenClaim := { program := "yteekdggainficaa", sum := "36d94a2875f123e41f9c00be3735c5fdd26dd5bc573a638f387daf9172c5e5f0", func := "stepladder/stepladderlaw21.VelvetOthers", spec := "velvetOthers", unfollowed := true, recurses := true, apart := false, narrowed := true }
def VelvetOthersUptoSaid : Prop := velvetOthersUptoRow.holds Try.pinned (OpenSpec.upto velvetOthersSpec)

/-- 'stepladderlaw21.VelvetLinks', WHERE WHAT IT READS IS OF BULK AT MOST 1048576: true; the input reads as it did. -/
def velvetLinksUptoRow : OpenClaim := { program := "yteekdggainficaa", sum := "36d94a2875f123e41f9c00be3735c5fdd26dd5bc573a638f387daf9172c5e5f0", func := "stepladder/stepladderlaw21.VelvetLinks", spec := "velvetLinks", unfollowed := true, recurses := true, apart := false, narrowed := true }
def VelvetLinksUptoSaid : Prop := velvetLinksUptoRow.holds Try.pinned (OpenSpec.upto velvetLinksSpec)

/-- 'stepladderlaw21.VelvetNone', WHERE WHAT IT READS IS OF BULK AT MOST 1048576: true; the input reads as it did. -/
def velvetNoneUptoRow : OpenClaim := { program := "yteekdggainficaa", sum := "36d94a2875f123e41f9c00be3735c5fdd26dd5bc573a638f387daf9172c5e5f0", func := "stepladder/stepladderlaw21.VelvetNone", spec := "velvetNone", unfollowed := true, recurses := true, apart := false, narrowed := true }
def VelvetNoneUptoSaid : Prop := velvetNoneUptoRow.holds Try.pinned (OpenSpec.upto velvetNoneSpec)

/-- 'stepladderlaw21.VelvetCut', WHERE WHAT IT READS IS OF BULK AT MOST 1048576: true; the input reads as it did. -/
def velvetCutUptoRow : OpenClaim := { program := "yteekdggainficaa", sum := "36d94a2875f123e41f9c00be3735c5fdd26dd5bc573a638f387daf9172c5e5f0", func := "stepladder/stepladderlaw21.VelvetCut", spec := "velvetCut", unfollowed := true, recurses := true, apart := false, narrowed := true }
def VelvetCutUptoSaid : Prop := velvetCutUptoRow.holds Try.pinned (OpenSpec.upto velvetCutSpec)

end Rows
end Go.Proofs.Yteekdggainficaa
