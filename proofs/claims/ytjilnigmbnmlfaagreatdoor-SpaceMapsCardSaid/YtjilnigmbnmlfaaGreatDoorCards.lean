/-
  DERIVED. GIVEN WITH THE SEED: THE CARDS: each row of YtjilnigmbnmlfaaGreatDoorRows.lean that lists a variable, with what it lists TIED to the program's text (the seventh form; the later family's looks); each row that meets fmt, with fmt's text TOLD by the authors' own Lean function (tested against real Go, not proved from fmt's source: count such statements apart). THE CARD IS WHAT COUNTS. Prove the row's statement (the work); the ties are given (YtjilnigmbnmlfaaGreatDoorTie.lean); close each card by the builder's one call (the guide's Derived/Test/ToyasCard.lean, 'card_holds'). Laid BY PROGRAM, IN A SANDBOX (cutbox-door.mjs). By AI agents, Wed Nov 11 2026. No macro, syntax, notation, axiom, sorry.
-/
import Derived.Test.YtjilnigmbnmlfaaGreatDoorRows
import GoSem.ClaimSeven
namespace Go.Proofs.YtjilnigmbnmlfaaGreatDoor
namespace Rows

/-- THE TIED CARD OF 'abatislaw07.SpaceDefault'. -/
def spaceDefaultCard : Claim7 := { stood := { row := spaceDefaultRow, standIns := [], harness := (true, "2862c523b49c5a2066234e5ef5e8a15d9a4adae0806744cb31dcabb24522c31d"), looks := false }, kinds := [], alts := [], laidByText := true, laidKinds := [.data, .data, .data], laidTests := true, laidLooks := .later }
def SpaceDefaultCardSaid : Prop := Claim7.holds Tryz.pinned (.plain (OpenSpec.ofChange spaceDefaultSpec)) spaceDefaultCard

/-- THE TIED CARD OF 'abatislaw07.SpaceMaps'. -/
def spaceMapsCard : Claim7 := { stood := { row := spaceMapsRow, standIns := [], harness := (true, "2862c523b49c5a2066234e5ef5e8a15d9a4adae0806744cb31dcabb24522c31d"), looks := false }, kinds := [], alts := [], laidByText := true, laidKinds := [.data, .data, .data], laidTests := true, laidLooks := .later }
def SpaceMapsCardSaid : Prop := Claim7.holds Tryz.pinned (.plain (OpenSpec.ofChange spaceMapsSpec)) spaceMapsCard

/-- THE SECOND FORM's CARD OF 'abatislaw07.SpaceDefault'. -/
def spaceDefaultUptoCard : Claim7 := { stood := { row := spaceDefaultUptoRow, standIns := [], harness := (true, "2862c523b49c5a2066234e5ef5e8a15d9a4adae0806744cb31dcabb24522c31d"), looks := false }, kinds := [], alts := [], laidByText := true, laidKinds := [.data, .data, .data], laidTests := true, laidLooks := .later }
def SpaceDefaultUptoCardSaid : Prop := Claim7.holds Tryz.pinned (.plain (OpenSpec.upto spaceDefaultSpec)) spaceDefaultUptoCard

/-- THE SECOND FORM's CARD OF 'abatislaw07.SpaceMaps'. -/
def spaceMapsUptoCard : Claim7 := { stood := { row := spaceMapsUptoRow, standIns := [], harness := (true, "2862c523b49c5a2066234e5ef5e8a15d9a4adae0806744cb31dcabb24522c31d"), looks := false }, kinds := [], alts := [], laidByText := true, laidKinds := [.data, .data, .data], laidTests := true, laidLooks := .later }
def SpaceMapsUptoCardSaid : Prop := Claim7.holds Tryz.pinned (.plain (OpenSpec.upto spaceMapsSpec)) spaceMapsUptoCard
end Rows
end Go.Proofs.YtjilnigmbnmlfaaGreatDoor
