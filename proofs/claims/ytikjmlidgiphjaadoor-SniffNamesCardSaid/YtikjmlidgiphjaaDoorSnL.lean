/- bytes.TrimLeft, laid at this dump (printed by the kit's lay-plain out of the shelf's contract). -/
import Derived.Shelf.Bytes.SlTrim
import Derived.Test.YtikjmlidgiphjaaDoorProg
namespace Go.Proofs.YtikjmlidgiphjaaDoor
open Go.Shelf
def trimLays_ren : Go.Shelf.Ren := ⟨fun | 8 => 12 | 9 => 15 | 11 => 16 | 12 => 17 | 14 => 18 | 16 => 19 | 17 => 20 | 18 => 21 | 20 => 22 | n => n, fun | 22 => 22 | 9 => 9 | 3 => 3 | 4 => 4 | 5 => 5 | 28 => 40 | 27 => 39 | 0 => 0 | 31 => 43 | 33 => 45 | 21 => 21 | 36 => 48 | 37 => 30 | 40 => 51 | 39 => 50 | n => n, fun | 0 => 0 | 1 => 1 | n => n⟩
theorem trimLays : Go.Proofs.SlLaysV.n8 Tryd.prog trimLays_ren := {
  mixed := by kernel_rfl
  f8 := Tryd.func12.trans (congrArg some (by kernel_rfl))
  f9 := Tryd.func15.trans (congrArg some (by kernel_rfl))
  f11 := Tryd.func16.trans (congrArg some (by kernel_rfl))
  f12 := Tryd.func17.trans (congrArg some (by kernel_rfl))
  f14 := Tryd.func18.trans (congrArg some (by kernel_rfl))
  f16 := Tryd.func19.trans (congrArg some (by kernel_rfl))
  f17 := Tryd.func20.trans (congrArg some (by kernel_rfl))
  f18 := Tryd.func21.trans (congrArg some (by kernel_rfl))
  f20 := Tryd.func22.trans (congrArg some (by kernel_rfl))
  t0 := Tryd.underlying0
  a0 := Tryd.isAgg0
  z0 := Tryd.sizeOf0
  v0 := Tryd.zeroValue0
  t3 := Tryd.underlying3
  a3 := Tryd.isAgg3
  z3 := Tryd.sizeOf3
  v3 := Tryd.zeroValue3
  t4 := Tryd.underlying4
  a4 := Tryd.isAgg4
  z4 := Tryd.sizeOf4
  v4 := Tryd.zeroValue4
  t5 := Tryd.underlying5
  a5 := Tryd.isAgg5
  z5 := Tryd.sizeOf5
  v5 := Tryd.zeroValue5
  t9 := Tryd.underlying9
  a9 := Tryd.isAgg9
  z9 := Tryd.sizeOf9
  v9 := Tryd.zeroValue9
  t21 := Tryd.underlying21
  a21 := Tryd.isAgg21
  z21 := Tryd.sizeOf21
  v21 := Tryd.zeroValue21
  t22 := Tryd.underlying22
  a22 := Tryd.isAgg22
  z22 := Tryd.sizeOf22
  v22 := Tryd.zeroValue22
  t27 := Tryd.underlying39
  a27 := Tryd.isAgg39
  z27 := Tryd.sizeOf39
  t28 := Tryd.underlying40
  a28 := Tryd.isAgg40
  z28 := Tryd.sizeOf40
  v28 := Tryd.zeroValue40
  t31 := Tryd.underlying43
  a31 := Tryd.isAgg43
  z31 := Tryd.sizeOf43
  v31 := Tryd.zeroValue43
  t33 := Tryd.underlying45
  a33 := Tryd.isAgg45
  z33 := Tryd.sizeOf45
  v33 := Tryd.zeroValue45
  t36 := Tryd.underlying48
  a36 := Tryd.isAgg48
  z36 := Tryd.sizeOf48
  t37 := Tryd.underlying30
  a37 := Tryd.isAgg30
  z37 := Tryd.sizeOf30
  v37 := Tryd.zeroValue30
  t39 := Tryd.underlying50
  a39 := Tryd.isAgg50
  z39 := Tryd.sizeOf50
  v39 := Tryd.zeroValue50
  t40 := Tryd.underlying51
  a40 := Tryd.isAgg51
  z40 := Tryd.sizeOf51
  v40 := Tryd.zeroValue51 }
end Go.Proofs.YtikjmlidgiphjaaDoor
