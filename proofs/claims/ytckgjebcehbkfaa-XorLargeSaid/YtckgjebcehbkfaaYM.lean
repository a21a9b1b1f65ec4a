/- The kit's Mul, laid. -/
import Derived.Test.YtckgjebcehbkfaaG1
import Derived.Test.YtckgjebcehbkfaaProg
import Derived.Shelf.Bits.Mul64
namespace Go.Proofs.Ytckgjebcehbkfaa
open Go Go.RowKit Go.Proofs Go.Shelf
def mulT_ren : Go.Shelf.Ren := ⟨fun | 212 => 67 | 263 => 86 | 264 => 87 | n => n, fun | 46 => 91 | 51 => 108 | 146 => 109 | 53 => 106 | 148 => 111 | n => n, fun | n => n⟩
theorem mulT : Go.Proofs.Lays.n212 Try.prog mulT_ren := {
  mixed := by kernel_rfl
  f212 := Try.func67.trans (congrArg some (by kernel_rfl))
  f263 := Try.func86.trans (congrArg some (by kernel_rfl))
  f264 := Try.func87.trans (congrArg some (by kernel_rfl))
  t46 := Try.underlying91
  a46 := Try.isAgg91
  z46 := Try.sizeOf91
  v46 := Try.zeroValue91
  t51 := Try.underlying108
  a51 := Try.isAgg108
  z51 := Try.sizeOf108
  v51 := Try.zeroValue108
  t53 := Try.underlying106
  a53 := Try.isAgg106
  z53 := Try.sizeOf106
  v53 := Try.zeroValue106
  t146 := Try.underlying109
  a146 := Try.isAgg109
  z146 := Try.sizeOf109
  v146 := Try.zeroValue109
  t148 := Try.underlying111
  a148 := Try.isAgg111
  z148 := Try.sizeOf111
  v148 := Try.zeroValue111 }

end Go.Proofs.Ytckgjebcehbkfaa
