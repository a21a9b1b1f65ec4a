/- The kit's slices.AppendSeq and slices.Sort, laid at ints. -/
import Derived.Test.YtkobikdkbpdjeaaDoorG1
import Derived.Test.YtkobikdkbpdjeaaDoorProg
import Derived.Shelf.SlIterI.Sorted
import Derived.Shelf.SortM.Plain
import Derived.Shelf.SortM.SortNone
namespace Go.Proofs.YtkobikdkbpdjeaaDoor
open Go Go.RowKit Go.Sort Go.Proofs Go.Shelf
def apI_ren : Go.Shelf.Ren := ⟨fun | 11 => 55 | n => n, fun | 24 => 23 | 26 => 3 | 28 => 48 | 0 => 0 | 33 => 72 | 4 => 4 | n => n, fun | n => n⟩
theorem apI : Go.Proofs.SlLaysZI.n11 Tryd.prog apI_ren := {
 mixed := by kernel_rfl
 f11 := ⟨Tryd.f55.name, by decide, Tryd.func55.trans (congrArg some (by kernel_rfl))⟩
 t0 := Tryd.underlying0
 a0 := Tryd.isAgg0
 z0 := Tryd.sizeOf0
 v0 := Tryd.zeroValue0
 t24 := Tryd.underlying23
 a24 := Tryd.isAgg23
 z24 := Tryd.sizeOf23
 v24 := Tryd.zeroValue23
 t26 := Tryd.underlying3
 a26 := Tryd.isAgg3
 z26 := Tryd.sizeOf3
 v26 := Tryd.zeroValue3
 t28 := Tryd.underlying48
 a28 := Tryd.isAgg48
 z28 := Tryd.sizeOf48
 v28 := Tryd.zeroValue48
 i26 := by kernel_rfl }
def sortI_ren : Go.Shelf.Ren := ⟨fun | 5 => 43 | 8 => 57 | 7 => 56 | 19 => 73 | 20 => 74 | 10 => 64 | 11 => 65 | 12 => 66 | 13 => 67 | 14 => 68 | 15 => 69 | 16 => 70 | 17 => 71 | 18 => 72 | 30 => 78 | 31 => 79 | 32 => 80 | 33 => 81 | 34 => 82 | 35 => 45 | 40 => 86 | n => n, fun | 23 => 23 | 25 => 3 | 3 => 3 | 32 => 88 | 22 => 23 | 0 => 0 | 44 => 109 | 46 => 111 | 4 => 4 | 36 => 103 | 35 => 102 | 41 => 74 | 5 => 5 | 9 => 9 | 53 => 112 | 57 => 90 | 63 => 120 | 64 => 121 | n => n, fun | n => n⟩
theorem sortI : Go.Proofs.SlLaysM.n5 Tryd.prog sortI_ren := {
 mixed := by kernel_rfl
 f5 := ⟨Tryd.f43.name, by decide, Tryd.func43.trans (congrArg some (by kernel_rfl))⟩
 f7 := ⟨Tryd.f56.name, by decide, Tryd.func56.trans (congrArg some (by kernel_rfl))⟩
 f8 := Tryd.func57.trans (congrArg some (by kernel_rfl))
 f10 := ⟨Tryd.f64.name, by decide, Tryd.func64.trans (congrArg some (by kernel_rfl))⟩
 f11 := ⟨Tryd.f65.name, by decide, Tryd.func65.trans (congrArg some (by kernel_rfl))⟩
 f12 := ⟨Tryd.f66.name, by decide, Tryd.func66.trans (congrArg some (by kernel_rfl))⟩
 f13 := ⟨Tryd.f67.name, by decide, Tryd.func67.trans (congrArg some (by kernel_rfl))⟩
 f14 := ⟨Tryd.f68.name, by decide, Tryd.func68.trans (congrArg some (by kernel_rfl))⟩
 f15 := ⟨Tryd.f69.name, by decide, Tryd.func69.trans (congrArg some (by kernel_rfl))⟩
 f16 := ⟨Tryd.f70.name, by decide, Tryd.func70.trans (congrArg some (by kernel_rfl))⟩
 f17 := ⟨Tryd.f71.name, by decide, Tryd.func71.trans (congrArg some (by kernel_rfl))⟩
 f18 := ⟨Tryd.f72.name, by decide, Tryd.func72.trans (congrArg some (by kernel_rfl))⟩
 f19 := Tryd.func73.trans (congrArg some (by kernel_rfl))
 f20 := Tryd.func74.trans (congrArg some (by kernel_rfl))
 f30 := ⟨Tryd.f78.name, by decide, Tryd.func78.trans (congrArg some (by kernel_rfl))⟩
 f31 := Tryd.func79.trans (congrArg some (by kernel_rfl))
 f32 := Tryd.func80.trans (congrArg some (by kernel_rfl))
 f33 := ⟨Tryd.f81.name, by decide, Tryd.func81.trans (congrArg some (by kernel_rfl))⟩
 f34 := ⟨Tryd.f82.name, by decide, Tryd.func82.trans (congrArg some (by kernel_rfl))⟩
 f35 := ⟨Tryd.f45.name, by decide, Tryd.func45.trans (congrArg some (by kernel_rfl))⟩
 f40 := ⟨Tryd.f86.name, by decide, Tryd.func86.trans (congrArg some (by kernel_rfl))⟩
 t0 := Tryd.underlying0
 a0 := Tryd.isAgg0
 z0 := Tryd.sizeOf0
 v0 := Tryd.zeroValue0
 t3 := Tryd.underlying3
 a3 := Tryd.isAgg3
 z3 := Tryd.sizeOf3
 v3 := Tryd.zeroValue3
 t4 := Tryd.underlying4
 a4 := Tryd.isAgg4
 z4 := Tryd.sizeOf4
 v4 := Tryd.zeroValue4
 t5 := Tryd.underlying5
 a5 := Tryd.isAgg5
 z5 := Tryd.sizeOf5
 v5 := Tryd.zeroValue5
 t9 := Tryd.underlying9
 a9 := Tryd.isAgg9
 z9 := Tryd.sizeOf9
 v9 := Tryd.zeroValue9
 t22 := Tryd.underlying23
 a22 := Tryd.isAgg23
 z22 := Tryd.sizeOf23
 v22 := Tryd.zeroValue23
 t23 := Tryd.underlying23
 a23 := Tryd.isAgg23
 z23 := Tryd.sizeOf23
 v23 := Tryd.zeroValue23
 t25 := Tryd.underlying3
 a25 := Tryd.isAgg3
 z25 := Tryd.sizeOf3
 v25 := Tryd.zeroValue3
 t32 := Tryd.underlying88
 a32 := Tryd.isAgg88
 z32 := Tryd.sizeOf88
 v32 := Tryd.zeroValue88
 t35 := Tryd.underlying102
 a35 := Tryd.isAgg102
 z35 := Tryd.sizeOf102
 v35 := Tryd.zeroValue102
 t36 := Tryd.underlying103
 a36 := Tryd.isAgg103
 z36 := Tryd.sizeOf103
 v36 := Tryd.zeroValue103
 t41 := Tryd.underlying74
 a41 := Tryd.isAgg74
 z41 := Tryd.sizeOf74
 v41 := Tryd.zeroValue74
 t44 := Tryd.underlying109
 a44 := Tryd.isAgg109
 z44 := Tryd.sizeOf109
 v44 := Tryd.zeroValue109
 t46 := Tryd.underlying111
 a46 := Tryd.isAgg111
 z46 := Tryd.sizeOf111
 v46 := Tryd.zeroValue111
 t53 := Tryd.underlying112
 a53 := Tryd.isAgg112
 z53 := Tryd.sizeOf112
 v53 := Tryd.zeroValue112
 t57 := Tryd.underlying90
 a57 := Tryd.isAgg90
 z57 := Tryd.sizeOf90
 v57 := Tryd.zeroValue90
 t63 := Tryd.underlying120
 a63 := Tryd.isAgg120
 z63 := Tryd.sizeOf120
 v63 := Tryd.zeroValue120
 t64 := Tryd.underlying121
 a64 := Tryd.isAgg121
 z64 := Tryd.sizeOf121
 v64 := Tryd.zeroValue121 }

end Go.Proofs.YtkobikdkbpdjeaaDoor
