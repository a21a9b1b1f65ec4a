/-
  No cell of these rows narrows 'for every input' (looked for: loops, veiled, ifaces, maps, wideKeys, modest, calm, conditions, laid).
  DERIVED. THE GIVEN ROWS OF THIS SEAT. 3 by the template 'for every input the law returns true; each argument reads behind the call as it read before'; 0 by the template 'total and deterministic' (their statements: YtfaienbdebjfcaaGreatTotals.lean).
  GIVEN WITH THE SEED: the statements are not yours to turn. If you find one false, say at which input.
  Laid BY PROGRAM, IN A SANDBOX (cutbox-rows.mjs): the forced cells as the released guide's own fill.sh prints them over the translation d10eb5daf2bdcada… (all of the seat's roots in one cut). By AI agents, Wed Nov 11 2026. No macro, syntax, notation, axiom, sorry.
-/
import Derived.Test.YtfaienbdebjfcaaGreatChecked
import GoSem.Claim
import GoSem.ClaimJoined
import GoSem.ClaimMapViews
import Derived.JoinedTies
import Derived.KernelRfl
namespace Go.Proofs.YtfaienbdebjfcaaGreat
/- THE CELL 'sum', in the pinned program and in every row, IS THE sha256 OF THE DUMP (.gsa) THAT YtfaienbdebjfcaaGreatProg.lean LOADS. Nothing in Lean hashes anything: it is a label: what it is worth is what the hold of that sum in a sandbox is worth. -/
noncomputable def Tryz.pinned : Pinned := { name := "ytfaienbdebjfcaagreat", sum := "d10eb5daf2bdcada9a6aa88ec7e90d130856d34f893526d4af7164809b11c9f2", checked := Tryz.checked }
namespace Rows
def none {H : Type} : Left H := { results := [], args := [] }

/-- 'sealringtop.TopCounts': WHATEVER THE INPUT: true; the input reads as it did. -/
def topCountsSpec : ChangeSpec := { name := "topCounts", fn := fun _ => fun
  | [d1, d2] => { results := [.lit (.bool true)], args := [d1, d2] }
  | _ => none }
def topCountsRow : OpenClaim := { program := "ytfaienbdebjfcaagreat", sum := "d10eb5daf2bdcada9a6aa88ec7e90d130856d34f893526d4af7164809b11c9f2", func := "sealring/sealringtop.TopCounts", spec := "topCounts", inPlace := ["internal/bytealg.abigen_runtime_cmpstring", "slices.overlaps[sealring/api.Power]"], unfollowed := true, recurses := true, plainKeys := false, apart := false }
def TopCountsSaid : Prop := topCountsRow.holds Tryz.pinned (OpenSpec.ofChange topCountsSpec)

/-- ITS FALSE NEIGHBOUR: 'it returns false'. Refute it at one input. -/
def topCountsWrong : ChangeSpec := { name := "topCounts", fn := fun _ => fun
  | [d1, d2] => { results := [.lit (.bool false)], args := [d1, d2] }
  | _ => none }
def TopCountsWrongFalsely : Prop := topCountsRow.holds Tryz.pinned (OpenSpec.ofChange topCountsWrong)

/-- 'sealringtop.TopPrefix': WHATEVER THE INPUT: true; the input reads as it did. -/
def topPrefixSpec : ChangeSpec := { name := "topPrefix", fn := fun _ => fun
  | [d] => { results := [.lit (.bool true)], args := [d] }
  | _ => none }
def topPrefixRow : OpenClaim := { program := "ytfaienbdebjfcaagreat", sum := "d10eb5daf2bdcada9a6aa88ec7e90d130856d34f893526d4af7164809b11c9f2", func := "sealring/sealringtop.TopPrefix", spec := "topPrefix", inPlace := ["internal/bytealg.abigen_runtime_cmpstring", "slices.overlaps[sealring/api.Power]", "internal/abi.NoEscape"], unfollowed := true, recurses := true, plainKeys := false, apart := false }
def TopPrefixSaid : Prop := topPrefixRow.holds Tryz.pinned (OpenSpec.ofChange topPrefixSpec)

/-- ITS FALSE NEIGHBOUR: 'it returns false'. Refute it at one input. -/
def topPrefixWrong : ChangeSpec := { name := "topPrefix", fn := fun _ => fun
  | [d] => { results := [.lit (.bool false)], args := [d] }
  | _ => none }
def TopPrefixWrongFalsely : Prop := topPrefixRow.holds Tryz.pinned (OpenSpec.ofChange topPrefixWrong)

/-- 'sealringtop.TopTagged': WHATEVER THE INPUT: true; the input reads as it did. -/
def topTaggedSpec : ChangeSpec := { name := "topTagged", fn := fun _ => fun
  | [d] => { results := [.lit (.bool true)], args := [d] }
  | _ => none }
def topTaggedRow : OpenClaim := { program := "ytfaienbdebjfcaagreat", sum := "d10eb5daf2bdcada9a6aa88ec7e90d130856d34f893526d4af7164809b11c9f2", func := "sealring/sealringtop.TopTagged", spec := "topTagged", inPlace := ["internal/bytealg.abigen_runtime_cmpstring", "slices.overlaps[sealring/api.Power]", "internal/abi.NoEscape"], unfollowed := true, recurses := true, plainKeys := false, apart := false }
def TopTaggedSaid : Prop := topTaggedRow.holds Tryz.pinned (OpenSpec.ofChange topTaggedSpec)

/-- ITS FALSE NEIGHBOUR: 'it returns false'. Refute it at one input. -/
def topTaggedWrong : ChangeSpec := { name := "topTagged", fn := fun _ => fun
  | [d] => { results := [.lit (.bool false)], args := [d] }
  | _ => none }
def TopTaggedWrongFalsely : Prop := topTaggedRow.holds Tryz.pinned (OpenSpec.ofChange topTaggedWrong)

/- THE SECOND FORM. 'bulk': how many values and letters a reading holds, each counted each time it is reached (what is shared counts as often as it is met; a slice's spare places count too). A statement '..UptoSaid' is the law's where the arguments, and the package variables that the reading takes, are together of bulk at most 1048576: NARROWER than '..Said'. Prove '..Said' where nothing that the law and all that it calls make is longer than what came in: it says more and counts as full. Else prove '..UptoSaid'. A law counts once. -/
mutual
def uptoBulk {H : Type} : DataW H → Nat
  | .lit (.string bytes) => bytes.length + 1
  | .lit _ => 1
  | .nil => 1
  | .ptr d => uptoBulk d + 1
  | .slice elems spare => uptoBulkAll elems + uptoBulkAll spare + 1
  | .agg parts => uptoBulkAll parts + 1
  | .iface _ d => uptoBulk d + 1
  | .map entries => uptoBulkEntries entries + 1
  | .held _ => 1
def uptoBulkAll {H : Type} : List (DataW H) → Nat
  | [] => 0
  | d :: r => uptoBulk d + uptoBulkAll r
def uptoBulkEntries {H : Type} : List (Lit × DataW H) → Nat
  | [] => 0
  | x :: r => uptoBulkEntry x + uptoBulkEntries r
def uptoBulkEntry {H : Type} : Lit × DataW H → Nat
  | (.string bytes, d) => bytes.length + uptoBulk d + 1
  | (_, d) => uptoBulk d + 1
 end
def uptoSmall : (H : Type) → List (DataW H) → Bool := fun _ ds => decide (uptoBulkAll ds ≤ 1048576)
def OpenSpec.upto (s : _root_.Go.ChangeSpec) : _root_.Go.OpenSpec := { _root_.Go.OpenSpec.ofChange s with cond := some uptoSmall }

/-- 'sealringtop.TopCounts', WHERE WHAT IT READS IS OF BULK AT MOST 1048576: true; the input reads as it did. -/
def topCountsUptoRow : OpenClaim := { program := "ytfaienbdebjfcaagreat", sum := "d10eb5daf2bdcada9a6aa88ec7e90d130856d34f893526d4af7164809b11c9f2", func := "sealring/sealringtop.TopCounts", spec := "topCounts", inPlace := ["internal/bytealg.abigen_runtime_cmpstring", "slices.overlaps[sealring/api.Power]"], unfollowed := true, recurses := true, plainKeys := false, apart := false, narrowed := true }
def TopCountsUptoSaid : Prop := topCountsUptoRow.holds Tryz.pinned (OpenSpec.upto topCountsSpec)

/-- 'sealringtop.TopPrefix', WHERE WHAT IT READS IS OF BULK AT MOST 1048576: true; the input reads as it did. -/
def topPrefixUptoRow : OpenClaim := { program := "ytfaienbdebjfcaagreat", sum := "d10eb5daf2bdcada9a6aa88ec7e90d130856d34f893526d4af7164809b11c9f2", func := "sealring/sealringtop.TopPrefix", spec := "topPrefix", inPlace := ["internal/bytealg.abigen_runtime_cmpstring", "slices.overlaps[sealring/api.Power]", "internal/abi.NoEscape"], unfollowed := true, recurses := true, plainKeys := false, apart := false, narrowed := true }
def TopPrefixUptoSaid : Prop := topPrefixUptoRow.holds Tryz.pinned (OpenSpec.upto topPrefixSpec)

/-- 'sealringtop.TopTagged', WHERE WHAT IT READS IS OF BULK AT MOST 1048576: true; the input reads as it did. -/
def topTaggedUptoRow : OpenClaim := { program := "ytfaienbdebjfcaagreat", sum := "d10eb5daf2bdcada9a6aa88ec7e90d130856d34f893526d4af7164809b11c9f2", func := "sealring/sealringtop.TopTagged", spec := "topTagged", inPlace := ["internal/bytealg.abigen_runtime_cmpstring", "slices.overlaps[sealring/api.Power]", "internal/abi.NoEscape"], unfollowed := true, recurses := true, plainKeys := false, apart := false, narrowed := true }
def TopTaggedUptoSaid : Prop := topTaggedUptoRow.holds Tryz.pinned (OpenSpec.upto topTaggedSpec)

end Rows
end Go.Proofs.YtfaienbdebjfcaaGreat
