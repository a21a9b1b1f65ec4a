/- Plain law: the rules of descriptions; the examples. -/
import Derived.Test.YtpfnlbaloaohgaaH9
import Derived.Test.YtpfnlbaloaohgaaH7
import Derived.Test.YtpfnlbaloaohgaaH10
namespace Go.Proofs.Ytpfnlbaloaohgaa
open Go
set_option linter.unusedVariables false
set_option linter.unusedSimpArgs false

/-- the rules of numbers are right, and small -/
theorem ruleN_ok : ∀ k, k < 12 → ruleE (ruleN k) = 0 ∧ sizeT (ruleN k).1 ≤ 10 ∧ sizeT (ruleN k).2 ≤ 10 := by decide +kernel
/-- the text of the example, and its term -/
def awS : ByteArray := ⟨#[102, 40, 104, 40, 41, 44, 32, 103, 40, 103, 40, 97, 58, 97, 110, 121, 41, 41, 41]⟩
def awA : Tm := .mk 2 ⟨#[97]⟩ 0 []
def awT : Tm := .mk 3 ⟨#[102]⟩ 0 [.mk 3 ⟨#[104]⟩ 0 [], .mk 3 ⟨#[103]⟩ 0 [.mk 3 ⟨#[103]⟩ 0 [awA]]]
def awR : List Rl := [ruleN 0, ruleN 2]
theorem aw_parse : parseP awS = (0, awT) := by decide +kernel
theorem aw_rules : rulesOf [0, 2] = awR := by rfl
theorem aw_red : redP awR awT = [(1, []), (0, [1])] := by decide +kernel
theorem aw_norm : normP awR awT 2 = (0, awA, [(0, [1]), (1, [])]) := by decide +kernel

end Go.Proofs.Ytpfnlbaloaohgaa
