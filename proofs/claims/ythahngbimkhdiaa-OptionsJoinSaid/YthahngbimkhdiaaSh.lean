/- By hand: the shelf's contracts of strings.FieldsFunc, strings.IndexByte and utf8.ValidRune, at this program's numbers. No condition. -/
import Derived.Test.YthahngbimkhdiaaProg
import Derived.Shelf.Strings.FieldsFuncAny
import Derived.Shelf.Small.Strs
import Derived.Shelf.Small.Utf8
namespace Go.Proofs.Ythahngbimkhdiaa.Sh
open Go.Shelf
def ren : Go.Shelf.Ren := ⟨fun | 229 => 18 | 137 => 24 | 119 => 25 | 217 => 28 | 266 => 29 | n => n, fun | 0 => 0 | 3 => 3 | 4 => 4 | 5 => 5 | 9 => 9 | 21 => 21 | 31 => 42 | 40 => 44 | 152 => 49 | 154 => 51 | n => n, fun n => n⟩
theorem l229 : Lays.n229 Try.prog ren := {
  mixed := by kernel_rfl
  f229 := Try.func18.trans (congrArg some (by kernel_rfl))
  t0 := Try.underlying0
  a0 := Try.isAgg0
  z0 := Try.sizeOf0
  v0 := Try.zeroValue0
  t3 := Try.underlying3
  a3 := Try.isAgg3
  z3 := Try.sizeOf3
  v3 := Try.zeroValue3
  t4 := Try.underlying4
  a4 := Try.isAgg4
  z4 := Try.sizeOf4
  v4 := Try.zeroValue4
  t9 := Try.underlying9
  a9 := Try.isAgg9
  z9 := Try.sizeOf9
  v9 := Try.zeroValue9
  t21 := Try.underlying21
  a21 := Try.isAgg21
  z21 := Try.sizeOf21
  v21 := Try.zeroValue21
  t31 := Try.underlying42
  a31 := Try.isAgg42
  z31 := Try.sizeOf42
  v31 := Try.zeroValue42
  t40 := Try.underlying44
  a40 := Try.isAgg44
  z40 := Try.sizeOf44
  v40 := Try.zeroValue44
  t152 := Try.underlying49
  a152 := Try.isAgg49
  z152 := Try.sizeOf49
  v152 := Try.zeroValue49
  t154 := Try.underlying51
  a154 := Try.isAgg51
  z154 := Try.sizeOf51
  v154 := Try.zeroValue51 }
theorem l137 : Lays.n137 Try.prog ren := {
  mixed := by kernel_rfl
  f137 := Try.func24.trans (congrArg some (by kernel_rfl))
  f217 := Try.func28.trans (congrArg some (by kernel_rfl))
  f266 := Try.func29.trans (congrArg some (by kernel_rfl))
  t3 := Try.underlying3
  a3 := Try.isAgg3
  z3 := Try.sizeOf3
  v3 := Try.zeroValue3
  t5 := Try.underlying5
  a5 := Try.isAgg5
  z5 := Try.sizeOf5
  v5 := Try.zeroValue5
  t9 := Try.underlying9
  a9 := Try.isAgg9
  z9 := Try.sizeOf9
  v9 := Try.zeroValue9 }
theorem l119 : Lays.n119 Try.prog ren := {
  mixed := by kernel_rfl
  f119 := Try.func25.trans (congrArg some (by kernel_rfl))
  t4 := Try.underlying4
  a4 := Try.isAgg4
  z4 := Try.sizeOf4
  v4 := Try.zeroValue4
  t21 := Try.underlying21
  a21 := Try.isAgg21
  z21 := Try.sizeOf21
  v21 := Try.zeroValue21 }
end Go.Proofs.Ythahngbimkhdiaa.Sh
