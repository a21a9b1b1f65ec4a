/-
  NARROWER THAN 'FOR EVERY INPUT', by the rows' own cells (each row's printed sentence says how): XorParts: loops · XorCheckRefute: loops · XorLaws: loops · XorSum: loops · XorRank: loops · XorCheck: loops · XorSpan: loops · XorAccepts: loops.
  DERIVED. THE GIVEN ROWS OF THIS SEAT. 9 by the template 'for every input the law returns true; each argument reads behind the call as it read before'; 0 by the template 'total and deterministic' (their statements: YtckgjebcehbkfaaTotals.lean).
  GIVEN WITH THE SEED: the statements are not yours to turn. If you find one false, say at which input.
  Laid BY PROGRAM, IN A SANDBOX (cutbox-rows.mjs): the forced cells as the released guide's own fill.sh prints them over the translation 5401ceaa20b33dda… (all of the seat's roots in one cut). By AI agents, Wed Nov 11 2026. No macro, syntax, notation, axiom, sorry.
-/
import Derived.Test.YtckgjebcehbkfaaChecked
import GoSem.Claim
import GoSem.ClaimJoined
import GoSem.ClaimMapViews
import Derived.JoinedTies
import Derived.KernelRfl
namespace Go.Proofs.Ytckgjebcehbkfaa
/- THE CELL 'sum', in the pinned program and in every row, IS THE sha256 OF THE DUMP (.gsa) THAT YtckgjebcehbkfaaProg.lean LOADS. Nothing in Lean hashes anything: it is a label: what it is worth is what the hold of that sum in a sandbox is worth. -/
noncomputable def Try.pinned : Pinned := { name := "ytckgjebcehbkfaa", sum := "5401ceaa20b33dda0a0c81eb0be17c37d8fbe907c6d42a80bdf118b77a167ceb", checked := Try.checked }
namespace Rows
def none {H : Type} : Left H := { results := [], args := [] }

/-- 'sealringlaw08.XorParts': WHATEVER THE INPUT: true; the input reads as it did. -/
def xorPartsSpec : ChangeSpec := { name := "xorParts", fn := fun _ => fun
  | [d] => { results := [.lit (.bool true)], args := [d] }
  | _ => none }
def xorPartsRow : OpenClaim := { program := "ytckgjebcehbkfaa", sum := "5401ceaa20b33dda0a0c81eb0be17c37d8fbe907c6d42a80bdf118b77a167ceb", func := "sealring/sealringlaw08.XorParts", spec := "xorParts", inPlace := ["internal/bytealg.abigen_runtime_cmpstring"], unfollowed := true, recurses := true, loops := true, apart := false }
def XorPartsSaid : Prop := xorPartsRow.holds Try.pinned (OpenSpec.ofChange xorPartsSpec)

/-- ITS FALSE NEIGHBOUR: 'it returns false'. Refute it at one input. -/
def xorPartsWrong : ChangeSpec := { name := "xorParts", fn := fun _ => fun
  | [d] => { results := [.lit (.bool false)], args := [d] }
  | _ => none }
def XorPartsWrongFalsely : Prop := xorPartsRow.holds Try.pinned (OpenSpec.ofChange xorPartsWrong)

/-- 'sealringlaw08.XorCheckRefute': WHATEVER THE INPUT: true; the input reads as it did. -/
def xorCheckRefuteSpec : ChangeSpec := { name := "xorCheckRefute", fn := fun _ => fun
  | [d1, d2, d3] => { results := [.lit (.bool true)], args := [d1, d2, d3] }
  | _ => none }
def xorCheckRefuteRow : OpenClaim := { program := "ytckgjebcehbkfaa", sum := "5401ceaa20b33dda0a0c81eb0be17c37d8fbe907c6d42a80bdf118b77a167ceb", func := "sealring/sealringlaw08.XorCheckRefute", spec := "xorCheckRefute", inPlace := ["internal/bytealg.abigen_runtime_cmpstring"], unfollowed := true, recurses := true, loops := true, apart := false }
def XorCheckRefuteSaid : Prop := xorCheckRefuteRow.holds Try.pinned (OpenSpec.ofChange xorCheckRefuteSpec)

/-- ITS FALSE NEIGHBOUR: 'it returns false'. Refute it at one input. -/
def xorCheckRefuteWrong : ChangeSpec := { name := "xorCheckRefute", fn := fun _ => fun
  | [d1, d2, d3] => { results := [.lit (.bool false)], args := [d1, d2, d3] }
  | _ => none }
def XorCheckRefuteWrongFalsely : Prop := xorCheckRefuteRow.holds Try.pinned (OpenSpec.ofChange xorCheckRefuteWrong)

/-- 'sealringlaw08.XorLaws': WHATEVER THE INPUT: true; the input reads as it did. -/
def xorLawsSpec : ChangeSpec := { name := "xorLaws", fn := fun _ => fun
  | [d1, d2, d3] => { results := [.lit (.bool true)], args := [d1, d2, d3] }
  | _ => none }
def xorLawsRow : OpenClaim := { program := "ytckgjebcehbkfaa", sum := "5401ceaa20b33dda0a0c81eb0be17c37d8fbe907c6d42a80bdf118b77a167ceb", func := "sealring/sealringlaw08.XorLaws", spec := "xorLaws", inPlace := ["internal/bytealg.abigen_runtime_cmpstring"], unfollowed := true, recurses := true, loops := true, apart := false }
def XorLawsSaid : Prop := xorLawsRow.holds Try.pinned (OpenSpec.ofChange xorLawsSpec)

/-- ITS FALSE NEIGHBOUR: 'it returns false'. Refute it at one input. -/
def xorLawsWrong : ChangeSpec := { name := "xorLaws", fn := fun _ => fun
  | [d1, d2, d3] => { results := [.lit (.bool false)], args := [d1, d2, d3] }
  | _ => none }
def XorLawsWrongFalsely : Prop := xorLawsRow.holds Try.pinned (OpenSpec.ofChange xorLawsWrong)

/-- 'sealringlaw08.XorSum': WHATEVER THE INPUT: true; the input reads as it did. -/
def xorSumSpec : ChangeSpec := { name := "xorSum", fn := fun _ => fun
  | [d1, d2] => { results := [.lit (.bool true)], args := [d1, d2] }
  | _ => none }
def xorSumRow : OpenClaim := { program := "ytckgjebcehbkfaa", sum := "5401ceaa20b33dda0a0c81eb0be17c37d8fbe907c6d42a80bdf118b77a167ceb", func := "sealring/sealringlaw08.XorSum", spec := "xorSum", inPlace := ["internal/bytealg.abigen_runtime_cmpstring"], unfollowed := true, recurses := true, loops := true, apart := false }
def XorSumSaid : Prop := xorSumRow.holds Try.pinned (OpenSpec.ofChange xorSumSpec)

/-- ITS FALSE NEIGHBOUR: 'it returns false'. Refute it at one input. -/
def xorSumWrong : ChangeSpec := { name := "xorSum", fn := fun _ => fun
  | [d1, d2] => { results := [.lit (.bool false)], args := [d1, d2] }
  | _ => none }
def XorSumWrongFalsely : Prop := xorSumRow.holds Try.pinned (OpenSpec.ofChange xorSumWrong)

/-- 'sealringlaw08.XorRank': WHATEVER THE INPUT: true; the input reads as it did. -/
def xorRankSpec : ChangeSpec := { name := "xorRank", fn := fun _ => fun
  | [d] => { results := [.lit (.bool true)], args := [d] }
  | _ => none }
def xorRankRow : OpenClaim := { program := "ytckgjebcehbkfaa", sum := "5401ceaa20b33dda0a0c81eb0be17c37d8fbe907c6d42a80bdf118b77a167ceb", func := "sealring/sealringlaw08.XorRank", spec := "xorRank", inPlace := ["internal/bytealg.abigen_runtime_cmpstring"], unfollowed := true, recurses := true, loops := true, apart := false }
def XorRankSaid : Prop := xorRankRow.holds Try.pinned (OpenSpec.ofChange xorRankSpec)

/-- ITS FALSE NEIGHBOUR: 'it returns false'. Refute it at one input. -/
def xorRankWrong : ChangeSpec := { name := "xorRank", fn := fun _ => fun
  | [d] => { results := [.lit (.bool false)], args := [d] }
  | _ => none }
def XorRankWrongFalsely : Prop := xorRankRow.holds Try.pinned (OpenSpec.ofChange xorRankWrong)

/-- 'sealringlaw08.XorCheck': WHATEVER THE INPUT: true; the input reads as it did. -/
def xorCheckSpec : ChangeSpec := { name := "xorCheck", fn := fun _ => fun
  | [d1, d2, d3] => { results := [.lit (.bool true)], args := [d1, d2, d3] }
  | _ => none }
def xorCheckRow : OpenClaim := { program := "ytckgjebcehbkfaa", sum := "5401ceaa20b33dda0a0c81eb0be17c37d8fbe907c6d42a80bdf118b77a167ceb", func := "sealring/sealringlaw08.XorCheck", spec := "xorCheck", inPlace := ["internal/bytealg.abigen_runtime_cmpstring"], unfollowed := true, recurses := true, loops := true, apart := false }
def XorCheckSaid : Prop := xorCheckRow.holds Try.pinned (OpenSpec.ofChange xorCheckSpec)

/-- ITS FALSE NEIGHBOUR: 'it returns false'. Refute it at one input. -/
def xorCheckWrong : ChangeSpec := { name := "xorCheck", fn := fun _ => fun
  | [d1, d2, d3] => { results := [.lit (.bool false)], args := [d1, d2, d3] }
  | _ => none }
def XorCheckWrongFalsely : Prop := xorCheckRow.holds Try.pinned (OpenSpec.ofChange xorCheckWrong)

/-- 'sealringlaw08.XorSpan': WHATEVER THE INPUT: true; the input reads as it did. -/
def xorSpanSpec : ChangeSpec := { name := "xorSpan", fn := fun _ => fun
  | [d1, d2] => { results := [.lit (.bool true)], args := [d1, d2] }
  | _ => none }
def xorSpanRow : OpenClaim := { program := "ytckgjebcehbkfaa", sum := "5401ceaa20b33dda0a0c81eb0be17c37d8fbe907c6d42a80bdf118b77a167ceb", func := "sealring/sealringlaw08.XorSpan", spec := "xorSpan", inPlace := ["internal/bytealg.abigen_runtime_cmpstring"], unfollowed := true, recurses := true, loops := true, apart := false }
def XorSpanSaid : Prop := xorSpanRow.holds Try.pinned (OpenSpec.ofChange xorSpanSpec)

/-- ITS FALSE NEIGHBOUR: 'it returns false'. Refute it at one input. -/
def xorSpanWrong : ChangeSpec := { name := "xorSpan", fn := fun _ => fun
  | [d1, d2] => { results := [.lit (.bool false)], args := [d1, d2] }
  | _ => none }
def XorSpanWrongFalsely : Prop := xorSpanRow.holds Try.pinned (OpenSpec.ofChange xorSpanWrong)

/-- 'sealringlaw08.XorAccepts': WHATEVER THE INPUT: true; the input reads as it did. -/
def xorAcceptsSpec : ChangeSpec := { name := "xorAccepts", fn := fun _ => fun
  | [d1, d2] => { results := [.lit (.bool true)], args := [d1, d2] }
  | _ => none }
def xorAcceptsRow : OpenClaim := { program := "ytckgjebcehbkfaa", sum := "5401ceaa20b33dda0a0c81eb0be17c37d8fbe907c6d42a80bdf118b77a167ceb", func := "sealring/sealringlaw08.XorAccepts", spec := "xorAccepts", inPlace := ["internal/bytealg.abigen_runtime_cmpstring"], unfollowed := true, recurses := true, loops := true, apart := false }
def XorAcceptsSaid : Prop := xorAcceptsRow.holds Try.pinned (OpenSpec.ofChange xorAcceptsSpec)

/-- ITS FALSE NEIGHBOUR: 'it returns false'. Refute it at one input. -/
def xorAcceptsWrong : ChangeSpec := { name := "xorAccepts", fn := fun _ => fun
  | [d1, d2] => { results := [.lit (.bool false)], args := [d1, d2] }
  | _ => none }
def XorAcceptsWrongFalsely : Prop := xorAcceptsRow.holds Try.pinned (OpenSpec.ofChange xorAcceptsWrong)

/-- 'sealringlaw08.XorLarge': WHATEVER THE INPUT: true; the input reads as it did. -/
def xorLargeSpec : ChangeSpec := { name := "xorLarge", fn := fun _ => fun
  | [d] => { results := [.lit (.bool true)], args := [d] }
  | _ => none }
def xorLargeRow : OpenClaim := { program := "ytckgjebcehbkfaa", sum := "5401ceaa20b33dda0a0c81eb0be17c37d8fbe907c6d42a80bdf118b77a167ceb", func := "sealring/sealringlaw08.XorLarge", spec := "xorLarge", inPlace := ["internal/bytealg.abigen_runtime_cmpstring"], unfollowed := true, recurses := true, apart := false }
def XorLargeSaid : Prop := xorLargeRow.holds Try.pinned (OpenSpec.ofChange xorLargeSpec)

/-- ITS FALSE NEIGHBOUR: 'it returns false'. Refute it at one input. -/
def xorLargeWrong : ChangeSpec := { name := "xorLarge", fn := fun _ => fun
  | [d] => { results := [.lit (.bool false)], args := [d] }
  | _ => none }
def XorLargeWrongFalsely : Prop := xorLargeRow.holds Try.pinned (OpenSpec.ofChange xorLargeWrong)

/- THE SECOND FORM. 'bulk': how many values and letters a reading holds, each counted each time it is reached (what is shared counts as often as it is met; a slice's spare places count too). A statement '..UptoSaid' is the law's where the arguments, and the package variables that the reading takes, are together of bulk at most 1048576: NARROWER than '..Said'. Prove '..Said' where nothing that the law and all that it calls make is longer than what came in: it says more and counts as full. Else prove '..UptoSaid'. A law counts once. -/
mutual
def uptoBulk {H : Type} : DataW H → Nat
  | .lit (.string bytes) => bytes.length + 1
  | .lit _ => 1
  | .nil => 1
  | .ptr d => uptoBulk d + 1
  | .slice elems spare => uptoBulkAll elems + uptoBulkAll spare + 1
  | .agg parts => uptoBulkAll parts + 1
  | .iface _ d => uptoBulk d + 1
  | .map entries => uptoBulkEntries entries + 1
  | .held _ => 1
def uptoBulkAll {H : Type} : List (DataW H) → Nat
  | [] => 0
  | d :: r => uptoBulk d + uptoBulkAll r
def uptoBulkEntries {H : Type} : List (Lit × DataW H) → Nat
  | [] => 0
  | x :: r => uptoBulkEntry x + uptoBulkEntries r
def uptoBulkEntry {H : Type} : Lit × DataW H → Nat
  | (.string bytes, d) => bytes.length + uptoBulk d + 1
  | (_, d) => uptoBulk d + 1
 end
def uptoSmall : (H : Type) → List (DataW H) → Bool := fun _ ds => decide (uptoBulkAll ds ≤ 1048576)
def OpenSpec.upto (s : _root_.Go.ChangeSpec) : _root_.Go.OpenSpec := { _root_.Go.OpenSpec.ofChange s with cond := some uptoSmall }

/-- 'sealringlaw08.XorParts', WHERE WHAT IT READS IS OF BULK AT MOST 1048576: true; the input reads as it did. -/
def xorPartsUptoRow : OpenClaim := { program := "ytckgjebcehbkfaa", sum := "5401ceaa20b33dda0a0c81eb0be17c37d8fbe907c6d42a80bdf118b77a167ceb", func := "sealring/sealringlaw08.XorParts", spec := "xorParts", inPlace := ["internal/bytealg.abigen_runtime_cmpstring"], unfollowed := true, recurses := true, loops := true, apart := false, narrowed := true }
def XorPartsUptoSaid : Prop := xorPartsUptoRow.holds Try.pinned (OpenSpec.upto xorPartsSpec)

/-- 'sealringlaw08.XorCheckRefute', WHERE WHAT IT READS IS OF BULK AT MOST 1048576: true; the input reads as it did. -/
def xorCheckRefuteUptoRow : OpenClaim := { program := "ytckgjebcehbkfaa", sum := "5401ceaa20b33dda0a0c81eb0be17c37d8fbe907c6d42a80bdf118b77a167ceb", func := "sealring/sealringlaw08.XorCheckRefute", spec := "xorCheckRefute", inPlace := ["internal/bytealg.abigen_runtime_cmpstring"], unfollowed := true, recurses := true, loops := true, apart := false, narrowed := true }
def XorCheckRefuteUptoSaid : Prop := xorCheckRefuteUptoRow.holds Try.pinned (OpenSpec.upto xorCheckRefuteSpec)

/-- 'sealringlaw08.XorLaws', WHERE WHAT IT READS IS OF BULK AT MOST 1048576: true; the input reads as it did. -/
def xorLawsUptoRow : OpenClaim := { program := "ytckgjebcehbkfaa", sum := "5401ceaa20b33dda0a0c81eb0be17c37d8fbe907c6d42a80bdf118b77a167ceb", func := "sealring/sealringlaw08.XorLaws", spec := "xorLaws", inPlace := ["internal/bytealg.abigen_runtime_cmpstring"], unfollowed := true, recurses := true, loops := true, apart := false, narrowed := true }
def XorLawsUptoSaid : Prop := xorLawsUptoRow.holds Try.pinned (OpenSpec.upto xorLawsSpec)

/-- 'sealringlaw08.XorSum', WHERE WHAT IT READS IS OF BULK AT MOST 1048576: true; the input reads as it did. -/
def xorSumUptoRow : OpenClaim := { program := "ytckgjebcehbkfaa", sum := "5401ceaa20b33dda0a0c81eb0be17c37d8fbe907c6d42a80bdf118b77a167ceb", func := "sealring/sealringlaw08.XorSum", spec := "xorSum", inPlace := ["internal/bytealg.abigen_runtime_cmpstring"], unfollowed := true, recurses := true, loops := true, apart := false, narrowed := true }
def XorSumUptoSaid : Prop := xorSumUptoRow.holds Try.pinned (OpenSpec.upto xorSumSpec)

/-- 'sealringlaw08.XorRank', WHERE WHAT IT READS IS OF BULK AT MOST 1048576: true; the input reads as it did. -/
def xorRankUptoRow : OpenClaim := { program := "ytckgjebcehbkfaa", sum := "5401ceaa20b33dda0a0c81eb0be17c37d8fbe907c6d42a80bdf118b77a167ceb", func := "sealring/sealringlaw08.XorRank", spec := "xorRank", inPlace := ["internal/bytealg.abigen_runtime_cmpstring"], unfollowed := true, recurses := true, loops := true, apart := false, narrowed := true }
def XorRankUptoSaid : Prop := xorRankUptoRow.holds Try.pinned (OpenSpec.upto xorRankSpec)

/-- 'sealringlaw08.XorCheck', WHERE WHAT IT READS IS OF BULK AT MOST 1048576: true; the input reads as it did. -/
def xorCheckUptoRow : OpenClaim := { program := "ytckgjebcehbkfaa", sum := "5401ceaa20b33dda0a0c81eb0be17c37d8fbe907c6d42a80bdf118b77a167ceb", func := "sealring/sealringlaw08.XorCheck", spec := "xorCheck", inPlace := ["internal/bytealg.abigen_runtime_cmpstring"], unfollowed := true, recurses := true, loops := true, apart := false, narrowed := true }
def XorCheckUptoSaid : Prop := xorCheckUptoRow.holds Try.pinned (OpenSpec.upto xorCheckSpec)

/-- 'sealringlaw08.XorSpan', WHERE WHAT IT READS IS OF BULK AT MOST 1048576: true; the input reads as it did. -/
def xorSpanUptoRow : OpenClaim := { program := "ytckgjebcehbkfaa", sum := "5401ceaa20b33dda0a0c81eb0be17c37d8fbe907c6d42a80bdf118b77a167ceb", func := "sealring/sealringlaw08.XorSpan", spec := "xorSpan", inPlace := ["internal/bytealg.abigen_runtime_cmpstring"], unfollowed := true, recurses := true, loops := true, apart := false, narrowed := true }
def XorSpanUptoSaid : Prop := xorSpanUptoRow.holds Try.pinned (OpenSpec.upto xorSpanSpec)

/-- 'sealringlaw08.XorAccepts', WHERE WHAT IT READS IS OF BULK AT MOST 1048576: true; the input reads as it did. -/
def xorAcceptsUptoRow : OpenClaim := { program := "ytckgjebcehbkfaa", sum := "5401ceaa20b33dda0a0c81eb0be17c37d8fbe907c6d42a80bdf118b77a167ceb", func := "sealring/sealringlaw08.XorAccepts", spec := "xorAccepts", inPlace := ["internal/bytealg.abigen_runtime_cmpstring"], unfollowed := true, recurses := true, loops := true, apart := false, narrowed := true }
def XorAcceptsUptoSaid : Prop := xorAcceptsUptoRow.holds Try.pinned (OpenSpec.upto xorAcceptsSpec)

/-- 'sealringlaw08.XorLarge', WHERE WHAT IT READS IS OF BULK AT MOST 1048576: true; the input reads as it did. -/
def xorLargeUptoRow : OpenClaim := { program := "ytckgjebcehbkfaa", sum := "5401ceaa20b33dda0a0c81eb0be17c37d8fbe907c6d42a80bdf118b77a167ceb", func := "sealring/sealringlaw08.XorLarge", spec := "xorLarge", inPlace := ["internal/bytealg.abigen_runtime_cmpstring"], unfollowed := true, recurses := true, apart := false, narrowed := true }
def XorLargeUptoSaid : Prop := xorLargeUptoRow.holds Try.pinned (OpenSpec.upto xorLargeSpec)

end Rows
end Go.Proofs.Ytckgjebcehbkfaa
