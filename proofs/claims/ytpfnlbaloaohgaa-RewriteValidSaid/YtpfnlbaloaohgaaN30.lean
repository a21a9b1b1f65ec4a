/- Contracts: joins by normal forms. -/
import Derived.Test.YtpfnlbaloaohgaaN29
namespace Go.Proofs.Ytpfnlbaloaohgaa
open Go Go.RowKit
set_option linter.unusedVariables false
set_option linter.unusedSimpArgs false

theorem sizeT_valid {t : Tm} (h : validT t = 0) : sizeT t ≤ 400 := (validT_iff.1 h).2.1

end Go.Proofs.Ytpfnlbaloaohgaa
