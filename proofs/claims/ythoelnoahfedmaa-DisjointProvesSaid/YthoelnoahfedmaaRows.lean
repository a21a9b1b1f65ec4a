/-
  No cell of these rows narrows 'for every input' (looked for: loops, veiled, ifaces, maps, wideKeys, modest, calm, conditions, laid).
  DERIVED. THE GIVEN ROWS OF THIS SEAT. 8 by the template 'for every input the law returns true; each argument reads behind the call as it read before'; 0 by the template 'total and deterministic' (their statements: YthoelnoahfedmaaTotals.lean).
  GIVEN WITH THE SEED: the statements are not yours to turn. If you find one false, say at which input.
  Laid BY PROGRAM, IN A SANDBOX (cutbox-rows.mjs): the forced cells as the released guide's own fill.sh prints them over the translation 9b5ada9c8f593289… (all of the seat's roots in one cut). By AI agents, Wed Nov 11 2026. No macro, syntax, notation, axiom, sorry.
-/
import Derived.Test.YthoelnoahfedmaaChecked
import GoSem.Claim
import GoSem.ClaimJoined
import GoSem.ClaimMapViews
import Derived.JoinedTies
import Derived.KernelRfl
namespace Go.Proofs.Ythoelnoahfedmaa
/- THE CELL 'sum', in the pinned program and in every row, IS THE sha256 OF THE DUMP (.gsa) THAT YthoelnoahfedmaaProg.lean LOADS. Nothing in Lean hashes anything: it is a label: what it is worth is what the hold of that sum in a sandbox is worth. -/
noncomputable def Try.pinned : Pinned := { name := "ythoelnoahfedmaa", sum := "9b5ada9c8f593289e89a6433e6486b8738615c824fc5d521a21bf868caeb87ba", checked := Try.checked }
namespace Rows
def none {H : Type} : Left H := { results := [], args := [] }

/-- 'sealringlaw19.DisjointStates': WHATEVER THE INPUT: true; the input reads as it did. -/
def disjointStatesSpec : ChangeSpec := { name := "disjointStates", fn := fun _ => fun
  | [d1, d2] => { results := [.lit (.bool true)], args := [d1, d2] }
  | _ => none }
def disjointStatesRow : OpenClaim := { program := "ythoelnoahfedmaa", sum := "9b5ada9c8f593289e89a6433e6486b8738615c824fc5d521a21bf868caeb87ba", func := "sealring/sealringlaw19.DisjointStates", spec := "disjointStates", unfollowed := true, recurses := true, plainKeys := false, apart := false }
def DisjointStatesSaid : Prop := disjointStatesRow.holds Try.pinned (OpenSpec.ofChange disjointStatesSpec)

/-- ITS FALSE NEIGHBOUR: 'it returns false'. Refute it at one input. -/
def disjointStatesWrong : ChangeSpec := { name := "disjointStates", fn := fun _ => fun
  | [d1, d2] => { results := [.lit (.bool false)], args := [d1, d2] }
  | _ => none }
def DisjointStatesWrongFalsely : Prop := disjointStatesRow.holds Try.pinned (OpenSpec.ofChange disjointStatesWrong)

/-- 'sealringlaw19.DisjointCommon': WHATEVER THE INPUT: true; the input reads as it did. -/
def disjointCommonSpec : ChangeSpec := { name := "disjointCommon", fn := fun _ => fun
  | [d1, d2, d3] => { results := [.lit (.bool true)], args := [d1, d2, d3] }
  | _ => none }
def disjointCommonRow : OpenClaim := { program := "ythoelnoahfedmaa", sum := "9b5ada9c8f593289e89a6433e6486b8738615c824fc5d521a21bf868caeb87ba", func := "sealring/sealringlaw19.DisjointCommon", spec := "disjointCommon", unfollowed := true, recurses := true, plainKeys := false, apart := false }
def DisjointCommonSaid : Prop := disjointCommonRow.holds Try.pinned (OpenSpec.ofChange disjointCommonSpec)

/-- ITS FALSE NEIGHBOUR: 'it returns false'. Refute it at one input. -/
def disjointCommonWrong : ChangeSpec := { name := "disjointCommon", fn := fun _ => fun
  | [d1, d2, d3] => { results := [.lit (.bool false)], args := [d1, d2, d3] }
  | _ => none }
def DisjointCommonWrongFalsely : Prop := disjointCommonRow.holds Try.pinned (OpenSpec.ofChange disjointCommonWrong)

/-- 'sealringlaw19.DisjointPrefixes': WHATEVER THE INPUT: true; the input reads as it did. -/
def disjointPrefixesSpec : ChangeSpec := { name := "disjointPrefixes", fn := fun _ => fun
  | [d1, d2] => { results := [.lit (.bool true)], args := [d1, d2] }
  | _ => none }
def disjointPrefixesRow : OpenClaim := { program := "ythoelnoahfedmaa", sum := "9b5ada9c8f593289e89a6433e6486b8738615c824fc5d521a21bf868caeb87ba", func := "sealring/sealringlaw19.DisjointPrefixes", spec := "disjointPrefixes", unfollowed := true, recurses := true, plainKeys := false, apart := false }
def DisjointPrefixesSaid : Prop := disjointPrefixesRow.holds Try.pinned (OpenSpec.ofChange disjointPrefixesSpec)

/-- ITS FALSE NEIGHBOUR: 'it returns false'. Refute it at one input. -/
def disjointPrefixesWrong : ChangeSpec := { name := "disjointPrefixes", fn := fun _ => fun
  | [d1, d2] => { results := [.lit (.bool false)], args := [d1, d2] }
  | _ => none }
def DisjointPrefixesWrongFalsely : Prop := disjointPrefixesRow.holds Try.pinned (OpenSpec.ofChange disjointPrefixesWrong)

/-- 'sealringlaw19.DisjointBegins': WHATEVER THE INPUT: true; the input reads as it did. -/
def disjointBeginsSpec : ChangeSpec := { name := "disjointBegins", fn := fun _ => fun
  | [d1, d2, d3] => { results := [.lit (.bool true)], args := [d1, d2, d3] }
  | _ => none }
def disjointBeginsRow : OpenClaim := { program := "ythoelnoahfedmaa", sum := "9b5ada9c8f593289e89a6433e6486b8738615c824fc5d521a21bf868caeb87ba", func := "sealring/sealringlaw19.DisjointBegins", spec := "disjointBegins", unfollowed := true, recurses := true, plainKeys := false, apart := false }
def DisjointBeginsSaid : Prop := disjointBeginsRow.holds Try.pinned (OpenSpec.ofChange disjointBeginsSpec)

/-- ITS FALSE NEIGHBOUR: 'it returns false'. Refute it at one input. -/
def disjointBeginsWrong : ChangeSpec := { name := "disjointBegins", fn := fun _ => fun
  | [d1, d2, d3] => { results := [.lit (.bool false)], args := [d1, d2, d3] }
  | _ => none }
def DisjointBeginsWrongFalsely : Prop := disjointBeginsRow.holds Try.pinned (OpenSpec.ofChange disjointBeginsWrong)

/-- 'sealringlaw19.DisjointAll': WHATEVER THE INPUT: true; the input reads as it did. -/
def disjointAllSpec : ChangeSpec := { name := "disjointAll", fn := fun _ => fun
  | [d] => { results := [.lit (.bool true)], args := [d] }
  | _ => none }
def disjointAllRow : OpenClaim := { program := "ythoelnoahfedmaa", sum := "9b5ada9c8f593289e89a6433e6486b8738615c824fc5d521a21bf868caeb87ba", func := "sealring/sealringlaw19.DisjointAll", spec := "disjointAll", unfollowed := true, recurses := true, plainKeys := false, apart := false }
def DisjointAllSaid : Prop := disjointAllRow.holds Try.pinned (OpenSpec.ofChange disjointAllSpec)

/-- ITS FALSE NEIGHBOUR: 'it returns false'. Refute it at one input. -/
def disjointAllWrong : ChangeSpec := { name := "disjointAll", fn := fun _ => fun
  | [d] => { results := [.lit (.bool false)], args := [d] }
  | _ => none }
def DisjointAllWrongFalsely : Prop := disjointAllRow.holds Try.pinned (OpenSpec.ofChange disjointAllWrong)

/-- 'sealringlaw19.DisjointProves': WHATEVER THE INPUT: true; the input reads as it did. -/
def disjointProvesSpec : ChangeSpec := { name := "disjointProves", fn := fun _ => fun
  | [d1, d2, d3] => { results := [.lit (.bool true)], args := [d1, d2, d3] }
  | _ => none }
def disjointProvesRow : OpenClaim := { program := "ythoelnoahfedmaa", sum := "9b5ada9c8f593289e89a6433e6486b8738615c824fc5d521a21bf868caeb87ba", func := "sealring/sealringlaw19.DisjointProves", spec := "disjointProves", unfollowed := true, recurses := true, plainKeys := false, apart := false }
def DisjointProvesSaid : Prop := disjointProvesRow.holds Try.pinned (OpenSpec.ofChange disjointProvesSpec)

/-- ITS FALSE NEIGHBOUR: 'it returns false'. Refute it at one input. -/
def disjointProvesWrong : ChangeSpec := { name := "disjointProves", fn := fun _ => fun
  | [d1, d2, d3] => { results := [.lit (.bool false)], args := [d1, d2, d3] }
  | _ => none }
def DisjointProvesWrongFalsely : Prop := disjointProvesRow.holds Try.pinned (OpenSpec.ofChange disjointProvesWrong)

/-- 'sealringlaw19.DisjointString': WHATEVER THE INPUT: true; the input reads as it did. -/
def disjointStringSpec : ChangeSpec := { name := "disjointString", fn := fun _ => fun
  | [d1, d2, d3] => { results := [.lit (.bool true)], args := [d1, d2, d3] }
  | _ => none }
def disjointStringRow : OpenClaim := { program := "ythoelnoahfedmaa", sum := "9b5ada9c8f593289e89a6433e6486b8738615c824fc5d521a21bf868caeb87ba", func := "sealring/sealringlaw19.DisjointString", spec := "disjointString", unfollowed := true, recurses := true, plainKeys := false, apart := false }
def DisjointStringSaid : Prop := disjointStringRow.holds Try.pinned (OpenSpec.ofChange disjointStringSpec)

/-- ITS FALSE NEIGHBOUR: 'it returns false'. Refute it at one input. -/
def disjointStringWrong : ChangeSpec := { name := "disjointString", fn := fun _ => fun
  | [d1, d2, d3] => { results := [.lit (.bool false)], args := [d1, d2, d3] }
  | _ => none }
def DisjointStringWrongFalsely : Prop := disjointStringRow.holds Try.pinned (OpenSpec.ofChange disjointStringWrong)

/-- 'sealringlaw19.DisjointChecks': WHATEVER THE INPUT: true; the input reads as it did. -/
def disjointChecksSpec : ChangeSpec := { name := "disjointChecks", fn := fun _ => fun
  | [d1, d2] => { results := [.lit (.bool true)], args := [d1, d2] }
  | _ => none }
def disjointChecksRow : OpenClaim := { program := "ythoelnoahfedmaa", sum := "9b5ada9c8f593289e89a6433e6486b8738615c824fc5d521a21bf868caeb87ba", func := "sealring/sealringlaw19.DisjointChecks", spec := "disjointChecks", unfollowed := true, recurses := true, plainKeys := false, apart := false }
def DisjointChecksSaid : Prop := disjointChecksRow.holds Try.pinned (OpenSpec.ofChange disjointChecksSpec)

/-- ITS FALSE NEIGHBOUR: 'it returns false'. Refute it at one input. -/
def disjointChecksWrong : ChangeSpec := { name := "disjointChecks", fn := fun _ => fun
  | [d1, d2] => { results := [.lit (.bool false)], args := [d1, d2] }
  | _ => none }
def DisjointChecksWrongFalsely : Prop := disjointChecksRow.holds Try.pinned (OpenSpec.ofChange disjointChecksWrong)

/- THE SECOND FORM. 'bulk': how many values and letters a reading holds, each counted each time it is reached (what is shared counts as often as it is met; a slice's spare places count too). A statement '..UptoSaid' is the law's where the arguments, and the package variables that the reading takes, are together of bulk at most 1048576: NARROWER than '..Said'. Prove '..Said' where nothing that the law and all that it calls make is longer than what came in: it says more and counts as full. Else prove '..UptoSaid'. A law counts once. -/
mutual
def uptoBulk {H : Type} : DataW H → Nat
  | .lit (.string bytes) => bytes.length + 1
  | .lit _ => 1
  | .nil => 1
  | .ptr d => uptoBulk d + 1
  | .slice elems spare => uptoBulkAll elems + uptoBulkAll spare + 1
  | .agg parts => uptoBulkAll parts + 1
  | .iface _ d => uptoBulk d + 1
  | .map entries => uptoBulkEntries entries + 1
  | .held _ => 1
def uptoBulkAll {H : Type} : List (DataW H) → Nat
  | [] => 0
  | d :: r => uptoBulk d + uptoBulkAll r
def uptoBulkEntries {H : Type} : List (Lit × DataW H) → Nat
  | [] => 0
  | x :: r => uptoBulkEntry x + uptoBulkEntries r
def uptoBulkEntry {H : Type} : Lit × DataW H → Nat
  | (.string bytes, d) => bytes.length + uptoBulk d + 1
  | (_, d) => uptoBulk d + 1
 end
def uptoSmall : (H : Type) → List (DataW H) → Bool := fun _ ds => decide (uptoBulkAll ds ≤ 1048576)
def OpenSpec.upto (s : _root_.Go.ChangeSpec) : _root_.Go.OpenSpec := { _root_.Go.OpenSpec.ofChange s with cond := some uptoSmall }

/-- 'sealringlaw19.DisjointStates', WHERE WHAT IT READS IS OF BULK AT MOST 1048576: true; the input reads as it did. -/
def disjointStatesUptoRow : OpenClaim := { program := "ythoelnoahfedmaa", sum := "9b5ada9c8f593289e89a6433e6486b8738615c824fc5d521a21bf868caeb87ba", func := "sealring/sealringlaw19.DisjointStates", spec := "disjointStates", unfollowed := true, recurses := true, plainKeys := false, apart := false, narrowed := true }
def DisjointStatesUptoSaid : Prop := disjointStatesUptoRow.holds Try.pinned (OpenSpec.upto disjointStatesSpec)

/-- 'sealringlaw19.DisjointCommon', WHERE WHAT IT READS IS OF BULK AT MOST 1048576: true; the input reads as it did. -/
def disjointCommonUptoRow : OpenClaim := { program := "ythoelnoahfedmaa", sum := "9b5ada9c8f593289e89a6433e6486b8738615c824fc5d521a21bf868caeb87ba", func := "sealring/sealringlaw19.DisjointCommon", spec := "disjointCommon", unfollowed := true, recurses := true, plainKeys := false, apart := false, narrowed := true }
def DisjointCommonUptoSaid : Prop := disjointCommonUptoRow.holds Try.pinned (OpenSpec.upto disjointCommonSpec)

/-- 'sealringlaw19.DisjointPrefixes', WHERE WHAT IT READS IS OF BULK AT MOST 1048576: true; the input reads as it did. -/
def disjointPrefixesUptoRow : OpenClaim := { program := "ythoelnoahfedmaa", sum := "9b5ada9c8f593289e89a6433e6486b8738615c824fc5d521a21bf868caeb87ba", func := "sealring/sealringlaw19.DisjointPrefixes", spec := "disjointPrefixes", unfollowed := true, recurses := true, plainKeys := false, apart := false, narrowed := true }
def DisjointPrefixesUptoSaid : Prop := disjointPrefixesUptoRow.holds Try.pinned (OpenSpec.upto disjointPrefixesSpec)

/-- 'sealringlaw19.DisjointBegins', WHERE WHAT IT READS IS OF BULK AT MOST 1048576: true; the input reads as it did. -/
def disjointBeginsUptoRow : OpenClaim := { program := "ythoelnoahfedmaa", sum := "9b5ada9c8f593289e89a6433e6486b8738615c824fc5d521a21bf868caeb87ba", func := "sealring/sealringlaw19.DisjointBegins", spec := "disjointBegins", unfollowed := true, recurses := true, plainKeys := false, apart := false, narrowed := true }
def DisjointBeginsUptoSaid : Prop := disjointBeginsUptoRow.holds Try.pinned (OpenSpec.upto disjointBeginsSpec)

/-- 'sealringlaw19.DisjointAll', WHERE WHAT IT READS IS OF BULK AT MOST 1048576: true; the input reads as it did. -/
def disjointAllUptoRow : OpenClaim := { program := "ythoelnoahfedmaa", sum := "9b5ada9c8f593289e89a6433e6486b8738615c824fc5d521a21bf868caeb87ba", func := "sealring/sealringlaw19.DisjointAll", spec := "disjointAll", unfollowed := true, recurses := true, plainKeys := false, apart := false, narrowed := true }
def DisjointAllUptoSaid : Prop := disjointAllUptoRow.holds Try.pinned (OpenSpec.upto disjointAllSpec)

/-- 'sealringlaw19.DisjointProves', WHERE WHAT IT READS IS OF BULK AT MOST 1048576: true; the input reads as it did. -/
def disjointProvesUptoRow : OpenClaim := { program := "ythoelnoahfedmaa", sum := "9b5ada9c8f593289e89a6433e6486b8738615c824fc5d521a21bf868caeb87ba", func := "sealring/sealringlaw19.DisjointProves", spec := "disjointProves", unfollowed := true, recurses := true, plainKeys := false, apart := false, narrowed := true }
def DisjointProvesUptoSaid : Prop := disjointProvesUptoRow.holds Try.pinned (OpenSpec.upto disjointProvesSpec)

/-- 'sealringlaw19.DisjointString', WHERE WHAT IT READS IS OF BULK AT MOST 1048576: true; the input reads as it did. -/
def disjointStringUptoRow : OpenClaim := { program := "ythoelnoahfedmaa", sum := "9b5ada9c8f593289e89a6433e6486b8738615c824fc5d521a21bf868caeb87ba", func := "sealring/sealringlaw19.DisjointString", spec := "disjointString", unfollowed := true, recurses := true, plainKeys := false, apart := false, narrowed := true }
def DisjointStringUptoSaid : Prop := disjointStringUptoRow.holds Try.pinned (OpenSpec.upto disjointStringSpec)

/-- 'sealringlaw19.DisjointChecks', WHERE WHAT IT READS IS OF BULK AT MOST 1048576: true; the input reads as it did. -/
def disjointChecksUptoRow : OpenClaim := { program := "ythoelnoahfedmaa", sum := "9b5ada9c8f593289e89a6433e6486b8738615c824fc5d521a21bf868caeb87ba", func := "sealring/sealringlaw19.DisjointChecks", spec := "disjointChecks", unfollowed := true, recurses := true, plainKeys := false, apart := false, narrowed := true }
def DisjointChecksUptoSaid : Prop := disjointChecksUptoRow.holds Try.pinned (OpenSpec.upto disjointChecksSpec)

end Rows
end Go.Proofs.Ythoelnoahfedmaa
