/- What the frames of all laws share. -/
import Derived.Test.YthoelnoahfedmaaF1
namespace Go.Proofs.Ythoelnoahfedmaa
open Go Go.RowKit Go.ChangeShapes Go.WideShapes Go.ChangeAt Go.Deep
set_option linter.unusedVariables false
set_option linter.unusedSimpArgs false

theorem own : ownKnob Try.prog.godebug = none := by kernel_rfl
theorem read22 : Try.prog.readableRec 22 = true := by kernel_rfl
theorem row22 : (22 : TypeId) < Try.prog.types.size := of_decide_eq_true (by kernel_rfl)

end Go.Proofs.Ythoelnoahfedmaa
