/- Contracts: BinarySearchFunc on ascending terms; the closure of CheckRefute. Contracts: the program's CheckRefute. Contracts: the reference's CheckRefute. -/
import Derived.Test.YtfaienbdebjfcaaGreatG6
import Derived.Test.YtfaienbdebjfcaaGreatG5
import Derived.Test.YtfaienbdebjfcaaGreatG7
import Derived.Test.YtfaienbdebjfcaaGreatG4
namespace Go.Proofs.YtfaienbdebjfcaaGreat
open Go Go.RowKit
set_option linter.unusedVariables false
set_option linter.unusedSimpArgs false

end Go.Proofs.YtfaienbdebjfcaaGreat
