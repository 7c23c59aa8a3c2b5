/- Names of generic library functions, laid at this program by the kit. -/
import Derived.Shelf.SlIter.Collect
import Derived.Shelf.SlMaps.Copy
import Derived.Test.YtgedjkcpgagnbaaDoorProg
namespace Go.Proofs
open Go.Shelf
def Tryd.keysN_ren : Go.Shelf.Ren := ⟨fun | 7 => 57 | 10 => 67 | n => n, fun | 23 => 44 | 26 => 9 | 3 => 3 | 28 => 78 | 0 => 0 | 27 => 77 | 33 => 50 | 4 => 4 | n => n, fun | n => n⟩
theorem Tryd.keysN : Go.Proofs.SlLaysZ.n7 Tryd.prog Tryd.keysN_ren := {
  mixed := by kernel_rfl
  f7 := ⟨Tryd.f57.name, by decide, Tryd.func57.trans (congrArg some (by kernel_rfl))⟩
  f10 := ⟨Tryd.f67.name, by decide, Tryd.func67.trans (congrArg some (by kernel_rfl))⟩
  t0 := Tryd.underlying0
  a0 := Tryd.isAgg0
  z0 := Tryd.sizeOf0
  v0 := Tryd.zeroValue0
  t4 := Tryd.underlying4
  a4 := Tryd.isAgg4
  z4 := Tryd.sizeOf4
  v4 := Tryd.zeroValue4
  t23 := Tryd.underlying44
  a23 := Tryd.isAgg44
  z23 := Tryd.sizeOf44
  v23 := Tryd.zeroValue44
  t26 := Tryd.underlying9
  a26 := Tryd.isAgg9
  z26 := Tryd.sizeOf9
  v26 := Tryd.zeroValue9
  t27 := Tryd.underlying77
  a27 := Tryd.isAgg77
  z27 := Tryd.sizeOf77
  v27 := Tryd.zeroValue77
  t28 := Tryd.underlying78
  a28 := Tryd.isAgg78
  z28 := Tryd.sizeOf78
  v28 := Tryd.zeroValue78
  t33 := Tryd.underlying50
  a33 := Tryd.isAgg50
  z33 := Tryd.sizeOf50
  v33 := Tryd.zeroValue50 }
def Tryd.collectN_ren : Go.Shelf.Ren := ⟨fun | 8 => 56 | 11 => 66 | n => n, fun | 26 => 9 | 28 => 78 | 24 => 24 | 0 => 0 | 33 => 50 | 4 => 4 | n => n, fun | n => n⟩
theorem Tryd.collectN : Go.Proofs.SlLaysZ.n8 Tryd.prog Tryd.collectN_ren := {
  mixed := by kernel_rfl
  f8 := ⟨Tryd.f56.name, by decide, Tryd.func56.trans (congrArg some (by kernel_rfl))⟩
  f11 := ⟨Tryd.f66.name, by decide, Tryd.func66.trans (congrArg some (by kernel_rfl))⟩
  t0 := Tryd.underlying0
  a0 := Tryd.isAgg0
  z0 := Tryd.sizeOf0
  v0 := Tryd.zeroValue0
  t24 := Tryd.underlying24
  a24 := Tryd.isAgg24
  z24 := Tryd.sizeOf24
  v24 := Tryd.zeroValue24
  t26 := Tryd.underlying9
  a26 := Tryd.isAgg9
  z26 := Tryd.sizeOf9
  v26 := Tryd.zeroValue9
  t28 := Tryd.underlying78
  a28 := Tryd.isAgg78
  z28 := Tryd.sizeOf78
  v28 := Tryd.zeroValue78
  i26 := by kernel_rfl }
def Tryd.copyN_ren : Go.Shelf.Ren := ⟨fun | 5 => 45 | n => n, fun | 23 => 44 | 24 => 44 | 26 => 9 | 27 => 3 | 0 => 0 | 4 => 4 | n => n, fun | n => n⟩
theorem Tryd.copyN : Go.Proofs.SlLaysX.n5 Tryd.prog Tryd.copyN_ren := {
  mixed := by kernel_rfl
  f5 := ⟨Tryd.f45.name, by decide, Tryd.func45.trans (congrArg some (by kernel_rfl))⟩
  t0 := Tryd.underlying0
  a0 := Tryd.isAgg0
  z0 := Tryd.sizeOf0
  v0 := Tryd.zeroValue0
  t4 := Tryd.underlying4
  a4 := Tryd.isAgg4
  z4 := Tryd.sizeOf4
  v4 := Tryd.zeroValue4
  t23 := Tryd.underlying44
  a23 := Tryd.isAgg44
  z23 := Tryd.sizeOf44
  v23 := Tryd.zeroValue44
  t24 := Tryd.underlying44
  a24 := Tryd.isAgg44
  z24 := Tryd.sizeOf44
  v24 := Tryd.zeroValue44
  a26 := Tryd.isAgg9
  z26 := Tryd.sizeOf9
  a27 := Tryd.isAgg3
  z27 := Tryd.sizeOf3 }
end Go.Proofs
