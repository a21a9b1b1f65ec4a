/-
  DERIVED. GIVEN WITH THE SEED: THE CARDS: each row of YtkobikdkbpdjeaaDoorRows.lean that lists a variable, with what it lists TIED to the program's text (the seventh form; the later family's looks); each row that meets fmt, with fmt's text TOLD by the authors' own Lean function (tested against real Go, not proved from fmt's source: count such statements apart). THE CARD IS WHAT COUNTS. Prove the row's statement (the work); the ties are given (YtkobikdkbpdjeaaDoorTie.lean); close each card by the builder's one call (the guide's Derived/Test/ToyasCard.lean, 'card_holds'). Laid BY PROGRAM, IN A SANDBOX (cutbox-door.mjs). By AI agents, Wed Nov 11 2026. No macro, syntax, notation, axiom, sorry.
-/
import Derived.Test.YtkobikdkbpdjeaaDoorRows
import GoSem.ClaimSeven
namespace Go.Proofs.YtkobikdkbpdjeaaDoor
namespace Rows

/-- THE TIED CARD OF 'sealringlaw04.OrderPrecedence'. -/
def orderPrecedenceCard : Claim7 := { stood := { row := orderPrecedenceRow, standIns := [], harness := (true, "c73671ab6dff83df5f108c61861ef730f12d89bfa58c6695907f5422c66729ae"), looks := false }, kinds := [], alts := [], laidByText := true, laidKinds := [.data, .data, .data, .widerDeep], laidTests := true, laidLooks := .later }
def OrderPrecedenceCardSaid : Prop := Claim7.holds Tryd.pinned (.plain (OpenSpec.ofChange orderPrecedenceSpec)) orderPrecedenceCard

/-- THE TIED CARD OF 'sealringlaw04.OrderNumbers'. -/
def orderNumbersCard : Claim7 := { stood := { row := orderNumbersRow, standIns := [], harness := (true, "c73671ab6dff83df5f108c61861ef730f12d89bfa58c6695907f5422c66729ae"), looks := false }, kinds := [], alts := [], laidByText := true, laidKinds := [.data, .data, .data, .widerDeep], laidTests := true, laidLooks := .later }
def OrderNumbersCardSaid : Prop := Claim7.holds Tryd.pinned (.plain (OpenSpec.ofChange orderNumbersSpec)) orderNumbersCard

/-- THE SECOND FORM's CARD OF 'sealringlaw04.OrderPrecedence'. -/
def orderPrecedenceUptoCard : Claim7 := { stood := { row := orderPrecedenceUptoRow, standIns := [], harness := (true, "c73671ab6dff83df5f108c61861ef730f12d89bfa58c6695907f5422c66729ae"), looks := false }, kinds := [], alts := [], laidByText := true, laidKinds := [.data, .data, .data, .widerDeep], laidTests := true, laidLooks := .later }
def OrderPrecedenceUptoCardSaid : Prop := Claim7.holds Tryd.pinned (.plain (OpenSpec.upto orderPrecedenceSpec)) orderPrecedenceUptoCard

/-- THE SECOND FORM's CARD OF 'sealringlaw04.OrderNumbers'. -/
def orderNumbersUptoCard : Claim7 := { stood := { row := orderNumbersUptoRow, standIns := [], harness := (true, "c73671ab6dff83df5f108c61861ef730f12d89bfa58c6695907f5422c66729ae"), looks := false }, kinds := [], alts := [], laidByText := true, laidKinds := [.data, .data, .data, .widerDeep], laidTests := true, laidLooks := .later }
def OrderNumbersUptoCardSaid : Prop := Claim7.holds Tryd.pinned (.plain (OpenSpec.upto orderNumbersSpec)) orderNumbersUptoCard
end Rows
end Go.Proofs.YtkobikdkbpdjeaaDoor
