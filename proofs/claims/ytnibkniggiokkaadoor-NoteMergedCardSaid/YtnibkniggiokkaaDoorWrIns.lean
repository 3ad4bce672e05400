/- The shelf's contract laid at this program (laid by the kit's lay-plain). -/
import Derived.Shelf.SlSortCmp.WholeK
import Derived.Test.YtnibkniggiokkaaDoorProg
namespace Go.Proofs.YtnibkniggiokkaaDoor
open Go.Shelf
def insWr_ren : Go.Shelf.Ren := ⟨fun | 20 => 90 | n => n, fun | 24 => 46 | 22 => 24 | 3 => 3 | 25 => 79 | 4 => 4 | 0 => 0 | n => n, fun | n => n⟩
theorem insWr : Go.Proofs.SlLaysF0.n20 Tryd.prog insWr_ren := {
  mixed := by kernel_rfl
  f20 := ⟨Tryd.f90.name, by decide, Tryd.func90.trans (congrArg some (by kernel_rfl))⟩
  t0 := Tryd.underlying0
  a0 := Tryd.isAgg0
  z0 := Tryd.sizeOf0
  v0 := Tryd.zeroValue0
  t3 := Tryd.underlying3
  a3 := Tryd.isAgg3
  z3 := Tryd.sizeOf3
  v3 := Tryd.zeroValue3
  t4 := Tryd.underlying4
  a4 := Tryd.isAgg4
  z4 := Tryd.sizeOf4
  v4 := Tryd.zeroValue4
  t22 := Tryd.underlying24
  a22 := Tryd.isAgg24
  z22 := Tryd.sizeOf24
  v22 := Tryd.zeroValue24
  t25 := Tryd.underlying79
  a25 := Tryd.isAgg79
  z25 := Tryd.sizeOf79
  v25 := Tryd.zeroValue79 }
end Go.Proofs.YtnibkniggiokkaaDoor
