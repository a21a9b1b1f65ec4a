/- Contracts: equal joins. -/
import Derived.Test.YtpfnlbaloaohgaaN34
import Derived.Test.YtpfnlbaloaohgaaN30
namespace Go.Proofs.Ytpfnlbaloaohgaa
open Go Go.RowKit
set_option linter.unusedVariables false
set_option linter.unusedSimpArgs false

end Go.Proofs.Ytpfnlbaloaohgaa
