/-
  DERIVED. GIVEN WITH THE SEED: THE CARDS: each row of YtkobikdkbpdjeaaGreatDoorRows.lean that lists a variable, with what it lists TIED to the program's text (the seventh form; the later family's looks); each row that meets fmt, with fmt's text TOLD by the authors' own Lean function (tested against real Go, not proved from fmt's source: count such statements apart). THE CARD IS WHAT COUNTS. Prove the row's statement (the work); the ties are given (YtkobikdkbpdjeaaGreatDoorTie.lean); close each card by the builder's one call (the guide's Derived/Test/ToyasCard.lean, 'card_holds'). Laid BY PROGRAM, IN A SANDBOX (cutbox-door.mjs). By AI agents, Wed Nov 11 2026. No macro, syntax, notation, axiom, sorry.
-/
import Derived.Test.YtkobikdkbpdjeaaGreatDoorRows
import GoSem.ClaimSeven
namespace Go.Proofs.YtkobikdkbpdjeaaGreatDoor
namespace Rows

/-- THE TIED CARD OF 'sealringlaw04.OrderTransitive'. -/
def orderTransitiveCard : Claim7 := { stood := { row := orderTransitiveRow, standIns := [], harness := (true, "0c3f22787b9a29e1c59f091024ac6fcc6d7c710144db674741c481b236d9049a"), looks := false }, kinds := [], alts := [], laidByText := true, laidKinds := [.data, .data, .data, .widerDeep], laidTests := true, laidLooks := .later }
def OrderTransitiveCardSaid : Prop := Claim7.holds Tryz.pinned (.plain (OpenSpec.ofChange orderTransitiveSpec)) orderTransitiveCard

/-- THE TIED CARD OF 'sealringlaw04.OrderTotal'. -/
def orderTotalCard : Claim7 := { stood := { row := orderTotalRow, standIns := [], harness := (true, "0c3f22787b9a29e1c59f091024ac6fcc6d7c710144db674741c481b236d9049a"), looks := false }, kinds := [], alts := [], laidByText := true, laidKinds := [.data, .data, .data, .widerDeep], laidTests := true, laidLooks := .later }
def OrderTotalCardSaid : Prop := Claim7.holds Tryz.pinned (.plain (OpenSpec.ofChange orderTotalSpec)) orderTotalCard

/-- THE TIED CARD OF 'sealringlaw04.OrderKbo'. -/
def orderKboCard : Claim7 := { stood := { row := orderKboRow, standIns := [], harness := (true, "0c3f22787b9a29e1c59f091024ac6fcc6d7c710144db674741c481b236d9049a"), looks := false }, kinds := [], alts := [], laidByText := true, laidKinds := [.data, .data, .data, .widerDeep], laidTests := true, laidLooks := .later }
def OrderKboCardSaid : Prop := Claim7.holds Tryz.pinned (.plain (OpenSpec.ofChange orderKboSpec)) orderKboCard

/-- THE SECOND FORM's CARD OF 'sealringlaw04.OrderTransitive'. -/
def orderTransitiveUptoCard : Claim7 := { stood := { row := orderTransitiveUptoRow, standIns := [], harness := (true, "0c3f22787b9a29e1c59f091024ac6fcc6d7c710144db674741c481b236d9049a"), looks := false }, kinds := [], alts := [], laidByText := true, laidKinds := [.data, .data, .data, .widerDeep], laidTests := true, laidLooks := .later }
def OrderTransitiveUptoCardSaid : Prop := Claim7.holds Tryz.pinned (.plain (OpenSpec.upto orderTransitiveSpec)) orderTransitiveUptoCard

/-- THE SECOND FORM's CARD OF 'sealringlaw04.OrderTotal'. -/
def orderTotalUptoCard : Claim7 := { stood := { row := orderTotalUptoRow, standIns := [], harness := (true, "0c3f22787b9a29e1c59f091024ac6fcc6d7c710144db674741c481b236d9049a"), looks := false }, kinds := [], alts := [], laidByText := true, laidKinds := [.data, .data, .data, .widerDeep], laidTests := true, laidLooks := .later }
def OrderTotalUptoCardSaid : Prop := Claim7.holds Tryz.pinned (.plain (OpenSpec.upto orderTotalSpec)) orderTotalUptoCard

/-- THE SECOND FORM's CARD OF 'sealringlaw04.OrderKbo'. -/
def orderKboUptoCard : Claim7 := { stood := { row := orderKboUptoRow, standIns := [], harness := (true, "0c3f22787b9a29e1c59f091024ac6fcc6d7c710144db674741c481b236d9049a"), looks := false }, kinds := [], alts := [], laidByText := true, laidKinds := [.data, .data, .data, .widerDeep], laidTests := true, laidLooks := .later }
def OrderKboUptoCardSaid : Prop := Claim7.holds Tryz.pinned (.plain (OpenSpec.upto orderKboSpec)) orderKboUptoCard
end Rows
end Go.Proofs.YtkobikdkbpdjeaaGreatDoor
