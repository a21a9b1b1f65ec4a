/- Contracts: checks of traces. -/
import Derived.Test.YtpfnlbaloaohgaaN27
namespace Go.Proofs.Ytpfnlbaloaohgaa
open Go Go.RowKit
set_option linter.unusedVariables false
set_option linter.unusedSimpArgs false

/-- what redexes lead to -/
def checkL (R : List Rl) : List Rdx → Tm → Option Tm
  | [], t => some t
  | r :: l, t => if (stepP R t r).1 ≠ 0 then none else checkL R l (stepP R t r).2
def endB (o : Option Tm) (u : Tm) : Bool := match o with | none => false | some x => decide (cmpT x u = 0)
/-- whether redexes lead from a term to another one -/
def traceP (R : List Rl) (t : Tm) (l : List Rdx) (u : Tm) : Bool :=
  if orE (rulesE R) (validT t) ≠ 0 then false else endB (checkL R l t) u

end Go.Proofs.Ytpfnlbaloaohgaa
