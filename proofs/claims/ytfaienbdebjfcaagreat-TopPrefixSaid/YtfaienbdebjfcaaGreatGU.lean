/- Contracts: format.Tagged, Generate. Contracts: format.Generate. -/
import Derived.Test.YtfaienbdebjfcaaGreatGT
import Derived.Test.YtfaienbdebjfcaaGreatGC
namespace Go.Proofs.YtfaienbdebjfcaaGreat
open Go Go.RowKit
open Go.Maps (Keyed)
set_option linter.unusedVariables false
set_option linter.unusedSimpArgs false

end Go.Proofs.YtfaienbdebjfcaaGreat

namespace Go.Proofs.YtfaienbdebjfcaaGreat
open Go Go.RowKit
set_option linter.unusedVariables false
set_option linter.unusedSimpArgs false

end Go.Proofs.YtfaienbdebjfcaaGreat
