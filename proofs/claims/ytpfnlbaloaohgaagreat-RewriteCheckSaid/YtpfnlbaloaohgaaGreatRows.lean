/-
  NARROWER THAN 'FOR EVERY INPUT', by the rows' own cells (each row's printed sentence says how): RewriteRedexes: loops · RewriteApply: loops · RewriteCheck: loops · RewriteCheckJoin: loops · RewriteNormal: loops · RewriteJoins: loops.
  DERIVED. THE GIVEN ROWS OF THIS SEAT. 6 by the template 'for every input the law returns true; each argument reads behind the call as it read before'; 0 by the template 'total and deterministic' (their statements: YtpfnlbaloaohgaaGreatTotals.lean).
  GIVEN WITH THE SEED: the statements are not yours to turn. If you find one false, say at which input.
  Laid BY PROGRAM, IN A SANDBOX (cutbox-rows.mjs): the forced cells as the released guide's own fill.sh prints them over the translation 7c4d5e10e56eaa95… (all of the seat's roots in one cut). By AI agents, Wed Nov 11 2026. No macro, syntax, notation, axiom, sorry.
-/
import Derived.Test.YtpfnlbaloaohgaaGreatChecked
import GoSem.Claim
import GoSem.ClaimJoined
import GoSem.ClaimMapViews
import Derived.JoinedTies
import Derived.KernelRfl
namespace Go.Proofs.YtpfnlbaloaohgaaGreat
/- THE CELL 'sum', in the pinned program and in every row, IS THE sha256 OF THE DUMP (.gsa) THAT YtpfnlbaloaohgaaGreatProg.lean LOADS. Nothing in Lean hashes anything: it is a label: what it is worth is what the hold of that sum in a sandbox is worth. -/
noncomputable def Tryz.pinned : Pinned := { name := "ytpfnlbaloaohgaagreat", sum := "7c4d5e10e56eaa952b0df8266c25bf8f2f9a2cceff413933c31387fc6c774448", checked := Tryz.checked }
namespace Rows
def none {H : Type} : Left H := { results := [], args := [] }

/-- 'sealringlaw05.RewriteRedexes': WHATEVER THE INPUT: true; the input reads as it did. -/
def rewriteRedexesSpec : ChangeSpec := { name := "rewriteRedexes", fn := fun _ => fun
  | [d1, d2] => { results := [.lit (.bool true)], args := [d1, d2] }
  | _ => none }
def rewriteRedexesRow : OpenClaim := { program := "ytpfnlbaloaohgaagreat", sum := "7c4d5e10e56eaa952b0df8266c25bf8f2f9a2cceff413933c31387fc6c774448", func := "sealring/sealringlaw05.RewriteRedexes", spec := "rewriteRedexes", inPlace := ["internal/bytealg.abigen_runtime_cmpstring"], unfollowed := true, recurses := true, loops := true, plainKeys := false, apart := false }
def RewriteRedexesSaid : Prop := rewriteRedexesRow.holds Tryz.pinned (OpenSpec.ofChange rewriteRedexesSpec)

/-- ITS FALSE NEIGHBOUR: 'it returns false'. Refute it at one input. -/
def rewriteRedexesWrong : ChangeSpec := { name := "rewriteRedexes", fn := fun _ => fun
  | [d1, d2] => { results := [.lit (.bool false)], args := [d1, d2] }
  | _ => none }
def RewriteRedexesWrongFalsely : Prop := rewriteRedexesRow.holds Tryz.pinned (OpenSpec.ofChange rewriteRedexesWrong)

/-- 'sealringlaw05.RewriteApply': WHATEVER THE INPUT: true; the input reads as it did. -/
def rewriteApplySpec : ChangeSpec := { name := "rewriteApply", fn := fun _ => fun
  | [d1, d2, d3] => { results := [.lit (.bool true)], args := [d1, d2, d3] }
  | _ => none }
def rewriteApplyRow : OpenClaim := { program := "ytpfnlbaloaohgaagreat", sum := "7c4d5e10e56eaa952b0df8266c25bf8f2f9a2cceff413933c31387fc6c774448", func := "sealring/sealringlaw05.RewriteApply", spec := "rewriteApply", inPlace := ["internal/bytealg.abigen_runtime_cmpstring"], unfollowed := true, recurses := true, loops := true, plainKeys := false, apart := false }
def RewriteApplySaid : Prop := rewriteApplyRow.holds Tryz.pinned (OpenSpec.ofChange rewriteApplySpec)

/-- ITS FALSE NEIGHBOUR: 'it returns false'. Refute it at one input. -/
def rewriteApplyWrong : ChangeSpec := { name := "rewriteApply", fn := fun _ => fun
  | [d1, d2, d3] => { results := [.lit (.bool false)], args := [d1, d2, d3] }
  | _ => none }
def RewriteApplyWrongFalsely : Prop := rewriteApplyRow.holds Tryz.pinned (OpenSpec.ofChange rewriteApplyWrong)

/-- 'sealringlaw05.RewriteCheck': WHATEVER THE INPUT: true; the input reads as it did. -/
def rewriteCheckSpec : ChangeSpec := { name := "rewriteCheck", fn := fun _ => fun
  | [d1, d2, d3] => { results := [.lit (.bool true)], args := [d1, d2, d3] }
  | _ => none }
def rewriteCheckRow : OpenClaim := { program := "ytpfnlbaloaohgaagreat", sum := "7c4d5e10e56eaa952b0df8266c25bf8f2f9a2cceff413933c31387fc6c774448", func := "sealring/sealringlaw05.RewriteCheck", spec := "rewriteCheck", inPlace := ["internal/bytealg.abigen_runtime_cmpstring"], unfollowed := true, recurses := true, loops := true, plainKeys := false, apart := false }
def RewriteCheckSaid : Prop := rewriteCheckRow.holds Tryz.pinned (OpenSpec.ofChange rewriteCheckSpec)

/-- ITS FALSE NEIGHBOUR: 'it returns false'. Refute it at one input. -/
def rewriteCheckWrong : ChangeSpec := { name := "rewriteCheck", fn := fun _ => fun
  | [d1, d2, d3] => { results := [.lit (.bool false)], args := [d1, d2, d3] }
  | _ => none }
def RewriteCheckWrongFalsely : Prop := rewriteCheckRow.holds Tryz.pinned (OpenSpec.ofChange rewriteCheckWrong)

/-- 'sealringlaw05.RewriteCheckJoin': WHATEVER THE INPUT: true; the input reads as it did. -/
def rewriteCheckJoinSpec : ChangeSpec := { name := "rewriteCheckJoin", fn := fun _ => fun
  | [d1, d2, d3] => { results := [.lit (.bool true)], args := [d1, d2, d3] }
  | _ => none }
def rewriteCheckJoinRow : OpenClaim := { program := "ytpfnlbaloaohgaagreat", sum := "7c4d5e10e56eaa952b0df8266c25bf8f2f9a2cceff413933c31387fc6c774448", func := "sealring/sealringlaw05.RewriteCheckJoin", spec := "rewriteCheckJoin", inPlace := ["internal/bytealg.abigen_runtime_cmpstring"], unfollowed := true, recurses := true, loops := true, plainKeys := false, apart := false }
def RewriteCheckJoinSaid : Prop := rewriteCheckJoinRow.holds Tryz.pinned (OpenSpec.ofChange rewriteCheckJoinSpec)

/-- ITS FALSE NEIGHBOUR: 'it returns false'. Refute it at one input. -/
def rewriteCheckJoinWrong : ChangeSpec := { name := "rewriteCheckJoin", fn := fun _ => fun
  | [d1, d2, d3] => { results := [.lit (.bool false)], args := [d1, d2, d3] }
  | _ => none }
def RewriteCheckJoinWrongFalsely : Prop := rewriteCheckJoinRow.holds Tryz.pinned (OpenSpec.ofChange rewriteCheckJoinWrong)

/-- 'sealringlaw05.RewriteNormal': WHATEVER THE INPUT: true; the input reads as it did. -/
def rewriteNormalSpec : ChangeSpec := { name := "rewriteNormal", fn := fun _ => fun
  | [d1, d2, d3] => { results := [.lit (.bool true)], args := [d1, d2, d3] }
  | _ => none }
def rewriteNormalRow : OpenClaim := { program := "ytpfnlbaloaohgaagreat", sum := "7c4d5e10e56eaa952b0df8266c25bf8f2f9a2cceff413933c31387fc6c774448", func := "sealring/sealringlaw05.RewriteNormal", spec := "rewriteNormal", inPlace := ["internal/bytealg.abigen_runtime_cmpstring"], unfollowed := true, recurses := true, loops := true, plainKeys := false, apart := false }
def RewriteNormalSaid : Prop := rewriteNormalRow.holds Tryz.pinned (OpenSpec.ofChange rewriteNormalSpec)

/-- ITS FALSE NEIGHBOUR: 'it returns false'. Refute it at one input. -/
def rewriteNormalWrong : ChangeSpec := { name := "rewriteNormal", fn := fun _ => fun
  | [d1, d2, d3] => { results := [.lit (.bool false)], args := [d1, d2, d3] }
  | _ => none }
def RewriteNormalWrongFalsely : Prop := rewriteNormalRow.holds Tryz.pinned (OpenSpec.ofChange rewriteNormalWrong)

/-- 'sealringlaw05.RewriteJoins': WHATEVER THE INPUT: true; the input reads as it did. -/
def rewriteJoinsSpec : ChangeSpec := { name := "rewriteJoins", fn := fun _ => fun
  | [d1, d2, d3] => { results := [.lit (.bool true)], args := [d1, d2, d3] }
  | _ => none }
def rewriteJoinsRow : OpenClaim := { program := "ytpfnlbaloaohgaagreat", sum := "7c4d5e10e56eaa952b0df8266c25bf8f2f9a2cceff413933c31387fc6c774448", func := "sealring/sealringlaw05.RewriteJoins", spec := "rewriteJoins", inPlace := ["internal/bytealg.abigen_runtime_cmpstring"], unfollowed := true, recurses := true, loops := true, plainKeys := false, apart := false }
def RewriteJoinsSaid : Prop := rewriteJoinsRow.holds Tryz.pinned (OpenSpec.ofChange rewriteJoinsSpec)

/-- ITS FALSE NEIGHBOUR: 'it returns false'. Refute it at one input. -/
def rewriteJoinsWrong : ChangeSpec := { name := "rewriteJoins", fn := fun _ => fun
  | [d1, d2, d3] => { results := [.lit (.bool false)], args := [d1, d2, d3] }
  | _ => none }
def RewriteJoinsWrongFalsely : Prop := rewriteJoinsRow.holds Tryz.pinned (OpenSpec.ofChange rewriteJoinsWrong)

/- THE SECOND FORM. 'bulk': how many values and letters a reading holds, each counted each time it is reached (what is shared counts as often as it is met; a slice's spare places count too). A statement '..UptoSaid' is the law's where the arguments, and the package variables that the reading takes, are together of bulk at most 1048576: NARROWER than '..Said'. Prove '..Said' where nothing that the law and all that it calls make is longer than what came in: it says more and counts as full. Else prove '..UptoSaid'. A law counts once. -/
mutual
def uptoBulk {H : Type} : DataW H → Nat
  | .lit (.string bytes) => bytes.length + 1
  | .lit _ => 1
  | .nil => 1
  | .ptr d => uptoBulk d + 1
  | .slice elems spare => uptoBulkAll elems + uptoBulkAll spare + 1
  | .agg parts => uptoBulkAll parts + 1
  | .iface _ d => uptoBulk d + 1
  | .map entries => uptoBulkEntries entries + 1
  | .held _ => 1
def uptoBulkAll {H : Type} : List (DataW H) → Nat
  | [] => 0
  | d :: r => uptoBulk d + uptoBulkAll r
def uptoBulkEntries {H : Type} : List (Lit × DataW H) → Nat
  | [] => 0
  | x :: r => uptoBulkEntry x + uptoBulkEntries r
def uptoBulkEntry {H : Type} : Lit × DataW H → Nat
  | (.string bytes, d) => bytes.length + uptoBulk d + 1
  | (_, d) => uptoBulk d + 1
 end
def uptoSmall : (H : Type) → List (DataW H) → Bool := fun _ ds => decide (uptoBulkAll ds ≤ 1048576)
def OpenSpec.upto (s : _root_.Go.ChangeSpec) : _root_.Go.OpenSpec := { _root_.Go.OpenSpec.ofChange s with cond := some uptoSmall }

/-- 'sealringlaw05.RewriteRedexes', WHERE WHAT IT READS IS OF BULK AT MOST 1048576: true; the input reads as it did. -/
def rewriteRedexesUptoRow : OpenClaim := { program := "ytpfnlbaloaohgaagreat", sum := "7c4d5e10e56eaa952b0df8266c25bf8f2f9a2cceff413933c31387fc6c774448", func := "sealring/sealringlaw05.RewriteRedexes", spec := "rewriteRedexes", inPlace := ["internal/bytealg.abigen_runtime_cmpstring"], unfollowed := true, recurses := true, loops := true, plainKeys := false, apart := false, narrowed := true }
def RewriteRedexesUptoSaid : Prop := rewriteRedexesUptoRow.holds Tryz.pinned (OpenSpec.upto rewriteRedexesSpec)

/-- 'sealringlaw05.RewriteApply', WHERE WHAT IT READS IS OF BULK AT MOST 1048576: true; the input reads as it did. -/
def rewriteApplyUptoRow : OpenClaim := { program := "ytpfnlbaloaohgaagreat", sum := "7c4d5e10e56eaa952b0df8266c25bf8f2f9a2cceff413933c31387fc6c774448", func := "sealring/sealringlaw05.RewriteApply", spec := "rewriteApply", inPlace := ["internal/bytealg.abigen_runtime_cmpstring"], unfollowed := true, recurses := true, loops := true, plainKeys := false, apart := false, narrowed := true }
def RewriteApplyUptoSaid : Prop := rewriteApplyUptoRow.holds Tryz.pinned (OpenSpec.upto rewriteApplySpec)

/-- 'sealringlaw05.RewriteCheck', WHERE WHAT IT READS IS OF BULK AT MOST 1048576: true; the input reads as it did. -/
def rewriteCheckUptoRow : OpenClaim := { program := "ytpfnlbaloaohgaagreat", sum := "7c4d5e10e56eaa952b0df8266c25bf8f2f9a2cceff413933c31387fc6c774448", func := "sealring/sealringlaw05.RewriteCheck", spec := "rewriteCheck", inPlace := ["internal/bytealg.abigen_runtime_cmpstring"], unfollowed := true, recurses := true, loops := true, plainKeys := false, apart := false, narrowed := true }
def RewriteCheckUptoSaid : Prop := rewriteCheckUptoRow.holds Tryz.pinned (OpenSpec.upto rewriteCheckSpec)

/-- 'sealringlaw05.RewriteCheckJoin', WHERE WHAT IT READS IS OF BULK AT MOST 1048576: true; the input reads as it did. -/
def rewriteCheckJoinUptoRow : OpenClaim := { program := "ytpfnlbaloaohgaagreat", sum := "7c4d5e10e56eaa952b0df8266c25bf8f2f9a2cceff413933c31387fc6c774448", func := "sealring/sealringlaw05.RewriteCheckJoin", spec := "rewriteCheckJoin", inPlace := ["internal/bytealg.abigen_runtime_cmpstring"], unfollowed := true, recurses := true, loops := true, plainKeys := false, apart := false, narrowed := true }
def RewriteCheckJoinUptoSaid : Prop := rewriteCheckJoinUptoRow.holds Tryz.pinned (OpenSpec.upto rewriteCheckJoinSpec)

/-- 'sealringlaw05.RewriteNormal', WHERE WHAT IT READS IS OF BULK AT MOST 1048576: true; the input reads as it did. -/
def rewriteNormalUptoRow : OpenClaim := { program := "ytpfnlbaloaohgaagreat", sum := "7c4d5e10e56eaa952b0df8266c25bf8f2f9a2cceff413933c31387fc6c774448", func := "sealring/sealringlaw05.RewriteNormal", spec := "rewriteNormal", inPlace := ["internal/bytealg.abigen_runtime_cmpstring"], unfollowed := true, recurses := true, loops := true, plainKeys := false, apart := false, narrowed := true }
def RewriteNormalUptoSaid : Prop := rewriteNormalUptoRow.holds Tryz.pinned (OpenSpec.upto rewriteNormalSpec)

/-- 'sealringlaw05.RewriteJoins', WHERE WHAT IT READS IS OF BULK AT MOST 1048576: true; the input reads as it did. -/
def rewriteJoinsUptoRow : OpenClaim := { program := "ytpfnlbaloaohgaagreat", sum := "7c4d5e10e56eaa952b0df8266c25bf8f2f9a2cceff413933c31387fc6c774448", func := "sealring/sealringlaw05.RewriteJoins", spec := "rewriteJoins", inPlace := ["internal/bytealg.abigen_runtime_cmpstring"], unfollowed := true, recurses := true, loops := true, plainKeys := false, apart := false, narrowed := true }
def RewriteJoinsUptoSaid : Prop := rewriteJoinsUptoRow.holds Tryz.pinned (OpenSpec.upto rewriteJoinsSpec)

end Rows
end Go.Proofs.YtpfnlbaloaohgaaGreat
