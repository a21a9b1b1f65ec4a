/- Contracts: the reference's At. -/
import Derived.Test.YtpfnlbaloaohgaaH4
import Derived.StillTailTactics
import Derived.Deep.QuietTactic
import Derived.BigQuiet
namespace Go.Proofs.Ytpfnlbaloaohgaa
open Go Go.RowKit
set_option linter.unusedVariables false
set_option linter.unusedSimpArgs false

theorem Ext.then_drN {w w' : World} {n : Nat} (h : Ext w w') : Ext w (w'.drewN n) := h.trans ⟨rfl, rfl, rfl, Nat.le_refl _, fun _ _ => rfl⟩

end Go.Proofs.Ytpfnlbaloaohgaa
