/- Contracts: BinarySearchFunc on ascending terms; the closure of CheckRefute. Contracts: the program's CheckRefute. Contracts: the reference's CheckRefute. -/
import Derived.Test.YtpfnlbaloaohgaaG6
import Derived.Test.YtpfnlbaloaohgaaG5
import Derived.Test.YtpfnlbaloaohgaaG7
import Derived.Test.YtpfnlbaloaohgaaG4
namespace Go.Proofs.Ytpfnlbaloaohgaa
open Go Go.RowKit
set_option linter.unusedVariables false
set_option linter.unusedSimpArgs false

end Go.Proofs.Ytpfnlbaloaohgaa
