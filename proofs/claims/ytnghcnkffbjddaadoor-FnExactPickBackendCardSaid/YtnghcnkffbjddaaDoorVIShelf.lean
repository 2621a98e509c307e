/- The shelf's contracts of slices.Insert at strings, laid at this program. No walk. -/
import Derived.Shelf.Spec.SlicesInsertGrow
import Derived.Ground.Names2Prog
import Derived.Test.YtnghcnkffbjddaaDoorProg
namespace Go.Proofs
open Go.Shelf
def Tryd.lays22_ren : Go.Shelf.Ren := ⟨fun | 22 => 56 | 29 => 91 | 30 => 92 | 36 => 122 | 17 => 162 | n => n, fun | 24 => 23 | 9 => 9 | 3 => 3 | 4 => 4 | 0 => 0 | n => n, fun | n => n⟩
theorem Tryd.lays22 : Go.Proofs.Lays2.n22 Tryd.prog Tryd.lays22_ren := {
  mixed := by kernel_rfl
  f17 := Tryd.func162.trans (congrArg some (by kernel_rfl))
  f22 := Tryd.func56.trans (congrArg some (by kernel_rfl))
  f29 := Tryd.func91.trans (congrArg some (by kernel_rfl))
  f30 := Tryd.func92.trans (congrArg some (by kernel_rfl))
  f36 := Tryd.func122.trans (congrArg some (by kernel_rfl))
  t0 := Tryd.underlying0
  a0 := Tryd.isAgg0
  z0 := Tryd.sizeOf0
  v0 := Tryd.zeroValue0
  t3 := Tryd.underlying3
  a3 := Tryd.isAgg3
  z3 := Tryd.sizeOf3
  v3 := Tryd.zeroValue3
  t4 := Tryd.underlying4
  a4 := Tryd.isAgg4
  z4 := Tryd.sizeOf4
  v4 := Tryd.zeroValue4
  t9 := Tryd.underlying9
  a9 := Tryd.isAgg9
  z9 := Tryd.sizeOf9
  v9 := Tryd.zeroValue9
  t24 := Tryd.underlying23
  a24 := Tryd.isAgg23
  z24 := Tryd.sizeOf23
  v24 := Tryd.zeroValue23
  i9 := by kernel_rfl }
open Go.RowKit Go.Lib in
/-- slices.Insert's own number. -/
theorem Tryd.slices_Insert_f : Tryd.lays22_ren.f 22 = Tryd.lays22_ren.f 22 := rfl
end Go.Proofs
