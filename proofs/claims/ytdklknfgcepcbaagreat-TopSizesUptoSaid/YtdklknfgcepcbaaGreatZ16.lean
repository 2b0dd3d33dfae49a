/- Texts of this proof, laid together by wip/tools/pack.py: Shelf2. -/
import Derived.Shelf.SlGeneric
import Derived.Shelf.SlicesE.Clone
import Derived.Shelf.SlicesQ.Contains
import Derived.Shelf.SlicesQ.Equal
import Derived.Shelf.SlicesQ.Index
import Derived.Shelf.SlicesQ.IndexFunc
import Derived.Ground.SlgnProg
import Derived.Ground.SlgqProg
import Derived.Ground.SlgfProg
import Derived.Ground.SlsfProg
import Derived.Test.YtdklknfgcepcbaaGreatProg
section
namespace Go.Proofs
open Go.Shelf
def Tryz.clone38A_ren : Go.Shelf.Ren := ⟨fun | 41 => 38 | n => n, fun | 22 => 51 | 23 => 44 | 4 => 4 | n => n, fun | n => n⟩
theorem Tryz.clone38A : Go.Proofs.SlLaysE0.n41 Tryz.prog Tryz.clone38A_ren := {
  mixed := by kernel_rfl
  f41 := ⟨Tryz.f38.name, by decide, Tryz.func38.trans (congrArg some (by kernel_rfl))⟩
  t4 := Tryz.underlying4
  a4 := Tryz.isAgg4
  z4 := Tryz.sizeOf4
  v4 := Tryz.zeroValue4
  t22 := Tryz.underlying51
  a22 := Tryz.isAgg51
  z22 := Tryz.sizeOf51
  v22 := Tryz.zeroValue51 }
def Tryz.clone78A_ren : Go.Shelf.Ren := ⟨fun | 41 => 78 | n => n, fun | 22 => 92 | 23 => 151 | 4 => 4 | n => n, fun | n => n⟩
theorem Tryz.clone78A : Go.Proofs.SlLaysE0.n41 Tryz.prog Tryz.clone78A_ren := {
  mixed := by kernel_rfl
  f41 := ⟨Tryz.f78.name, by decide, Tryz.func78.trans (congrArg some (by kernel_rfl))⟩
  t4 := Tryz.underlying4
  a4 := Tryz.isAgg4
  z4 := Tryz.sizeOf4
  v4 := Tryz.zeroValue4
  t22 := Tryz.underlying92
  a22 := Tryz.isAgg92
  z22 := Tryz.sizeOf92
  v22 := Tryz.zeroValue92 }
def Tryz.clone79A_ren : Go.Shelf.Ren := ⟨fun | 41 => 79 | n => n, fun | 22 => 93 | 23 => 154 | 4 => 4 | n => n, fun | n => n⟩
theorem Tryz.clone79A : Go.Proofs.SlLaysE0.n41 Tryz.prog Tryz.clone79A_ren := {
  mixed := by kernel_rfl
  f41 := ⟨Tryz.f79.name, by decide, Tryz.func79.trans (congrArg some (by kernel_rfl))⟩
  t4 := Tryz.underlying4
  a4 := Tryz.isAgg4
  z4 := Tryz.sizeOf4
  v4 := Tryz.zeroValue4
  t22 := Tryz.underlying93
  a22 := Tryz.isAgg93
  z22 := Tryz.sizeOf93
  v22 := Tryz.zeroValue93 }
def Tryz.clone97A_ren : Go.Shelf.Ren := ⟨fun | 41 => 97 | n => n, fun | 22 => 76 | 23 => 120 | 4 => 4 | n => n, fun | n => n⟩
theorem Tryz.clone97A : Go.Proofs.SlLaysE0.n41 Tryz.prog Tryz.clone97A_ren := {
  mixed := by kernel_rfl
  f41 := ⟨Tryz.f97.name, by decide, Tryz.func97.trans (congrArg some (by kernel_rfl))⟩
  t4 := Tryz.underlying4
  a4 := Tryz.isAgg4
  z4 := Tryz.sizeOf4
  v4 := Tryz.zeroValue4
  t22 := Tryz.underlying76
  a22 := Tryz.isAgg76
  z22 := Tryz.sizeOf76
  v22 := Tryz.zeroValue76 }
def Tryz.clone124A_ren : Go.Shelf.Ren := ⟨fun | 41 => 124 | n => n, fun | 22 => 54 | 23 => 95 | 4 => 4 | n => n, fun | n => n⟩
theorem Tryz.clone124A : Go.Proofs.SlLaysE0.n41 Tryz.prog Tryz.clone124A_ren := {
  mixed := by kernel_rfl
  f41 := ⟨Tryz.f124.name, by decide, Tryz.func124.trans (congrArg some (by kernel_rfl))⟩
  t4 := Tryz.underlying4
  a4 := Tryz.isAgg4
  z4 := Tryz.sizeOf4
  v4 := Tryz.zeroValue4
  t22 := Tryz.underlying54
  a22 := Tryz.isAgg54
  z22 := Tryz.sizeOf54
  v22 := Tryz.zeroValue54 }
def Tryz.clone144A_ren : Go.Shelf.Ren := ⟨fun | 41 => 144 | n => n, fun | 22 => 77 | 23 => 234 | 4 => 4 | n => n, fun | n => n⟩
theorem Tryz.clone144A : Go.Proofs.SlLaysE0.n41 Tryz.prog Tryz.clone144A_ren := {
  mixed := by kernel_rfl
  f41 := ⟨Tryz.f144.name, by decide, Tryz.func144.trans (congrArg some (by kernel_rfl))⟩
  t4 := Tryz.underlying4
  a4 := Tryz.isAgg4
  z4 := Tryz.sizeOf4
  v4 := Tryz.zeroValue4
  t22 := Tryz.underlying77
  a22 := Tryz.isAgg77
  z22 := Tryz.sizeOf77
  v22 := Tryz.zeroValue77 }
def Tryz.clone194A_ren : Go.Shelf.Ren := ⟨fun | 41 => 194 | n => n, fun | 22 => 37 | 23 => 5 | 4 => 4 | n => n, fun | n => n⟩
theorem Tryz.clone194A : Go.Proofs.SlLaysE0.n41 Tryz.prog Tryz.clone194A_ren := {
  mixed := by kernel_rfl
  f41 := ⟨Tryz.f194.name, by decide, Tryz.func194.trans (congrArg some (by kernel_rfl))⟩
  t4 := Tryz.underlying4
  a4 := Tryz.isAgg4
  z4 := Tryz.sizeOf4
  v4 := Tryz.zeroValue4
  t22 := Tryz.underlying37
  a22 := Tryz.isAgg37
  z22 := Tryz.sizeOf37
  v22 := Tryz.zeroValue37 }
end Go.Proofs
end
