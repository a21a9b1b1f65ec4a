/- Contracts: the reference's rules. Contracts: the reference's lists of rules. -/
import Derived.Test.YtpfnlbaloaohgaaH11
import Derived.Test.YtpfnlbaloaohgaaH1
import Derived.Test.YtpfnlbaloaohgaaH5
namespace Go.Proofs.Ytpfnlbaloaohgaa
open Go Go.RowKit
set_option linter.unusedVariables false
set_option linter.unusedSimpArgs false

end Go.Proofs.Ytpfnlbaloaohgaa
