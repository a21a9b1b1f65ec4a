/- The kit's slices.AppendSeq and slices.Sort, laid at ints. -/
import Derived.Test.YtkobikdkbpdjeaaGreatDoorG1
import Derived.Test.YtkobikdkbpdjeaaGreatDoorProg
import Derived.Shelf.SlIterI.Sorted
import Derived.Shelf.SortM.Plain
import Derived.Shelf.SortM.SortNone
namespace Go.Proofs.YtkobikdkbpdjeaaGreatDoor
open Go Go.RowKit Go.Sort Go.Proofs Go.Shelf
def apI_ren : Go.Shelf.Ren := ⟨fun | 11 => 78 | n => n, fun | 24 => 30 | 26 => 3 | 28 => 76 | 0 => 0 | 33 => 94 | 4 => 4 | n => n, fun | n => n⟩
theorem apI : Go.Proofs.SlLaysZI.n11 Tryz.prog apI_ren := {
 mixed := by kernel_rfl
 f11 := ⟨Tryz.f78.name, by decide, Tryz.func78.trans (congrArg some (by kernel_rfl))⟩
 t0 := Tryz.underlying0
 a0 := Tryz.isAgg0
 z0 := Tryz.sizeOf0
 v0 := Tryz.zeroValue0
 t24 := Tryz.underlying30
 a24 := Tryz.isAgg30
 z24 := Tryz.sizeOf30
 v24 := Tryz.zeroValue30
 t26 := Tryz.underlying3
 a26 := Tryz.isAgg3
 z26 := Tryz.sizeOf3
 v26 := Tryz.zeroValue3
 t28 := Tryz.underlying76
 a28 := Tryz.isAgg76
 z28 := Tryz.sizeOf76
 v28 := Tryz.zeroValue76
 i26 := by kernel_rfl }
def sortI_ren : Go.Shelf.Ren := ⟨fun | 5 => 61 | 8 => 80 | 7 => 79 | 19 => 98 | 20 => 99 | 10 => 89 | 11 => 90 | 12 => 91 | 13 => 92 | 14 => 93 | 15 => 94 | 16 => 95 | 17 => 96 | 18 => 97 | 30 => 104 | 31 => 105 | 32 => 106 | 33 => 107 | 34 => 108 | 35 => 63 | 40 => 113 | n => n, fun | 23 => 30 | 25 => 3 | 3 => 3 | 32 => 116 | 22 => 30 | 0 => 0 | 44 => 129 | 46 => 131 | 4 => 4 | 36 => 123 | 35 => 122 | 41 => 87 | 5 => 5 | 9 => 9 | 53 => 136 | 57 => 98 | 63 => 145 | 64 => 146 | n => n, fun | n => n⟩
theorem sortI : Go.Proofs.SlLaysM.n5 Tryz.prog sortI_ren := {
 mixed := by kernel_rfl
 f5 := ⟨Tryz.f61.name, by decide, Tryz.func61.trans (congrArg some (by kernel_rfl))⟩
 f7 := ⟨Tryz.f79.name, by decide, Tryz.func79.trans (congrArg some (by kernel_rfl))⟩
 f8 := Tryz.func80.trans (congrArg some (by kernel_rfl))
 f10 := ⟨Tryz.f89.name, by decide, Tryz.func89.trans (congrArg some (by kernel_rfl))⟩
 f11 := ⟨Tryz.f90.name, by decide, Tryz.func90.trans (congrArg some (by kernel_rfl))⟩
 f12 := ⟨Tryz.f91.name, by decide, Tryz.func91.trans (congrArg some (by kernel_rfl))⟩
 f13 := ⟨Tryz.f92.name, by decide, Tryz.func92.trans (congrArg some (by kernel_rfl))⟩
 f14 := ⟨Tryz.f93.name, by decide, Tryz.func93.trans (congrArg some (by kernel_rfl))⟩
 f15 := ⟨Tryz.f94.name, by decide, Tryz.func94.trans (congrArg some (by kernel_rfl))⟩
 f16 := ⟨Tryz.f95.name, by decide, Tryz.func95.trans (congrArg some (by kernel_rfl))⟩
 f17 := ⟨Tryz.f96.name, by decide, Tryz.func96.trans (congrArg some (by kernel_rfl))⟩
 f18 := ⟨Tryz.f97.name, by decide, Tryz.func97.trans (congrArg some (by kernel_rfl))⟩
 f19 := Tryz.func98.trans (congrArg some (by kernel_rfl))
 f20 := Tryz.func99.trans (congrArg some (by kernel_rfl))
 f30 := ⟨Tryz.f104.name, by decide, Tryz.func104.trans (congrArg some (by kernel_rfl))⟩
 f31 := Tryz.func105.trans (congrArg some (by kernel_rfl))
 f32 := Tryz.func106.trans (congrArg some (by kernel_rfl))
 f33 := ⟨Tryz.f107.name, by decide, Tryz.func107.trans (congrArg some (by kernel_rfl))⟩
 f34 := ⟨Tryz.f108.name, by decide, Tryz.func108.trans (congrArg some (by kernel_rfl))⟩
 f35 := ⟨Tryz.f63.name, by decide, Tryz.func63.trans (congrArg some (by kernel_rfl))⟩
 f40 := ⟨Tryz.f113.name, by decide, Tryz.func113.trans (congrArg some (by kernel_rfl))⟩
 t0 := Tryz.underlying0
 a0 := Tryz.isAgg0
 z0 := Tryz.sizeOf0
 v0 := Tryz.zeroValue0
 t3 := Tryz.underlying3
 a3 := Tryz.isAgg3
 z3 := Tryz.sizeOf3
 v3 := Tryz.zeroValue3
 t4 := Tryz.underlying4
 a4 := Tryz.isAgg4
 z4 := Tryz.sizeOf4
 v4 := Tryz.zeroValue4
 t5 := Tryz.underlying5
 a5 := Tryz.isAgg5
 z5 := Tryz.sizeOf5
 v5 := Tryz.zeroValue5
 t9 := Tryz.underlying9
 a9 := Tryz.isAgg9
 z9 := Tryz.sizeOf9
 v9 := Tryz.zeroValue9
 t22 := Tryz.underlying30
 a22 := Tryz.isAgg30
 z22 := Tryz.sizeOf30
 v22 := Tryz.zeroValue30
 t23 := Tryz.underlying30
 a23 := Tryz.isAgg30
 z23 := Tryz.sizeOf30
 v23 := Tryz.zeroValue30
 t25 := Tryz.underlying3
 a25 := Tryz.isAgg3
 z25 := Tryz.sizeOf3
 v25 := Tryz.zeroValue3
 t32 := Tryz.underlying116
 a32 := Tryz.isAgg116
 z32 := Tryz.sizeOf116
 v32 := Tryz.zeroValue116
 t35 := Tryz.underlying122
 a35 := Tryz.isAgg122
 z35 := Tryz.sizeOf122
 v35 := Tryz.zeroValue122
 t36 := Tryz.underlying123
 a36 := Tryz.isAgg123
 z36 := Tryz.sizeOf123
 v36 := Tryz.zeroValue123
 t41 := Tryz.underlying87
 a41 := Tryz.isAgg87
 z41 := Tryz.sizeOf87
 v41 := Tryz.zeroValue87
 t44 := Tryz.underlying129
 a44 := Tryz.isAgg129
 z44 := Tryz.sizeOf129
 v44 := Tryz.zeroValue129
 t46 := Tryz.underlying131
 a46 := Tryz.isAgg131
 z46 := Tryz.sizeOf131
 v46 := Tryz.zeroValue131
 t53 := Tryz.underlying136
 a53 := Tryz.isAgg136
 z53 := Tryz.sizeOf136
 v53 := Tryz.zeroValue136
 t57 := Tryz.underlying98
 a57 := Tryz.isAgg98
 z57 := Tryz.sizeOf98
 v57 := Tryz.zeroValue98
 t63 := Tryz.underlying145
 a63 := Tryz.isAgg145
 z63 := Tryz.sizeOf145
 v63 := Tryz.zeroValue145
 t64 := Tryz.underlying146
 a64 := Tryz.isAgg146
 z64 := Tryz.sizeOf146
 v64 := Tryz.zeroValue146 }

end Go.Proofs.YtkobikdkbpdjeaaGreatDoor
