/- Contracts: BinarySearchFunc on ascending terms; the closure of CheckRefute. Contracts: the program's CheckRefute. Contracts: the reference's CheckRefute. -/
import Derived.Test.YtpfnlbaloaohgaaGreatG6
import Derived.Test.YtpfnlbaloaohgaaGreatG5
import Derived.Test.YtpfnlbaloaohgaaGreatG7
import Derived.Test.YtpfnlbaloaohgaaGreatG4
namespace Go.Proofs.YtpfnlbaloaohgaaGreat
open Go Go.RowKit
set_option linter.unusedVariables false
set_option linter.unusedSimpArgs false

end Go.Proofs.YtpfnlbaloaohgaaGreat
