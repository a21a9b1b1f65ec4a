/- The walk of the law RewriteRedexes. -/
import Derived.Test.YtpfnlbaloaohgaaGreatA2
import Derived.Test.YtpfnlbaloaohgaaGreatH16
import Derived.Test.YtpfnlbaloaohgaaGreatH11
namespace Go.Proofs.YtpfnlbaloaohgaaGreat
open Go Go.RowKit
set_option linter.unusedVariables false
set_option linter.unusedSimpArgs false

theorem few_oneT {t : Tm} {m : Int} (h : fewT [t] 1 m = true) : (sizeT t : Int) ≤ m := by
 have h1 := (few_size h).2
 simp only [sizeL] at h1
 omega

end Go.Proofs.YtpfnlbaloaohgaaGreat
