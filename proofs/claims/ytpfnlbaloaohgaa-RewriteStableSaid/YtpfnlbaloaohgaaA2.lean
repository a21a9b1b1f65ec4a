/- The walk of the law RewriteValid. -/
import Derived.Test.YtpfnlbaloaohgaaA1
import Derived.Test.YtpfnlbaloaohgaaH12
import Derived.Test.YtpfnlbaloaohgaaH9
namespace Go.Proofs.Ytpfnlbaloaohgaa
open Go Go.RowKit
set_option linter.unusedVariables false
set_option linter.unusedSimpArgs false

end Go.Proofs.Ytpfnlbaloaohgaa
