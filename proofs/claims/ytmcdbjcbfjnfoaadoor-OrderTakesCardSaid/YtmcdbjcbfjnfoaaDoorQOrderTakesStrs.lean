
import Derived.Test.YtmcdbjcbfjnfoaaDoorProg
import Derived.Shelf.Small.Strs
import GoSem.Claim
namespace Go.Proofs
open Go.Shelf
def Tryd.laysCompare_ren : Go.Shelf.Ren := ⟨fun | 106 => 62 | 213 => 63 | 265 => 64 | n => n, fun | 9 => 9 | 3 => 3 | n => n, fun | n => n⟩
theorem Tryd.laysCompare : Go.Proofs.Lays.n106 Tryd.prog Tryd.laysCompare_ren := {
  mixed := by kernel_rfl
  f106 := Tryd.func62.trans (congrArg some (by kernel_rfl))
  f213 := Tryd.func63.trans (congrArg some (by kernel_rfl))
  f265 := Tryd.func64.trans (congrArg some (by kernel_rfl))
  t3 := Tryd.underlying3
  a3 := Tryd.isAgg3
  z3 := Tryd.sizeOf3
  v3 := Tryd.zeroValue3
  t9 := Tryd.underlying9
  a9 := Tryd.isAgg9
  z9 := Tryd.sizeOf9
  v9 := Tryd.zeroValue9 }
end Go.Proofs
