/-
  DERIVED. GIVEN WITH THE SEED: THE CARDS: each row of YtjilnigmbnmlfaaDoorRows.lean that lists a variable, with what it lists TIED to the program's text (the seventh form; the later family's looks); each row that meets fmt, with fmt's text TOLD by the authors' own Lean function (tested against real Go, not proved from fmt's source: count such statements apart). THE CARD IS WHAT COUNTS. Prove the row's statement (the work); the ties are given (YtjilnigmbnmlfaaDoorTie.lean); close each card by the builder's one call (the guide's Derived/Test/ToyasCard.lean, 'card_holds'). Laid BY PROGRAM, IN A SANDBOX (cutbox-door.mjs). By AI agents, Wed Nov 11 2026. No macro, syntax, notation, axiom, sorry.
-/
import Derived.Test.YtjilnigmbnmlfaaDoorRows
import GoSem.ClaimSeven
namespace Go.Proofs.YtjilnigmbnmlfaaDoor
namespace Rows

/-- THE TIED CARD OF 'abatislaw07.SpaceSame'. -/
def spaceSameCard : Claim7 := { stood := { row := spaceSameRow, standIns := [], harness := (true, "72b8d2288841c0b117850afdb6850d05b7ec74c7cb64528ac213abe5fe94388f"), looks := false }, kinds := [], alts := [], laidByText := true, laidKinds := [.data, .data, .data], laidTests := true, laidLooks := .later }
def SpaceSameCardSaid : Prop := Claim7.holds Tryd.pinned (.plain (OpenSpec.ofChange spaceSameSpec)) spaceSameCard

/-- THE TIED CARD OF 'abatislaw07.SpaceAdds'. -/
def spaceAddsCard : Claim7 := { stood := { row := spaceAddsRow, standIns := [], harness := (true, "72b8d2288841c0b117850afdb6850d05b7ec74c7cb64528ac213abe5fe94388f"), looks := false }, kinds := [], alts := [], laidByText := true, laidKinds := [.data, .data, .data], laidTests := true, laidLooks := .later }
def SpaceAddsCardSaid : Prop := Claim7.holds Tryd.pinned (.plain (OpenSpec.ofChange spaceAddsSpec)) spaceAddsCard

/-- THE TIED CARD OF 'abatislaw07.SpaceLess'. -/
def spaceLessCard : Claim7 := { stood := { row := spaceLessRow, standIns := [], harness := (true, "72b8d2288841c0b117850afdb6850d05b7ec74c7cb64528ac213abe5fe94388f"), looks := false }, kinds := [], alts := [], laidByText := true, laidKinds := [.data, .data, .data], laidTests := true, laidLooks := .later }
def SpaceLessCardSaid : Prop := Claim7.holds Tryd.pinned (.plain (OpenSpec.ofChange spaceLessSpec)) spaceLessCard

/-- THE TIED CARD OF 'abatislaw07.SpaceNames'. -/
def spaceNamesCard : Claim7 := { stood := { row := spaceNamesRow, standIns := [], harness := (true, "72b8d2288841c0b117850afdb6850d05b7ec74c7cb64528ac213abe5fe94388f"), looks := false }, kinds := [], alts := [], laidByText := true, laidKinds := [.data, .data, .data], laidTests := true, laidLooks := .later }
def SpaceNamesCardSaid : Prop := Claim7.holds Tryd.pinned (.plain (OpenSpec.ofChange spaceNamesSpec)) spaceNamesCard

/-- THE SECOND FORM's CARD OF 'abatislaw07.SpaceSame'. -/
def spaceSameUptoCard : Claim7 := { stood := { row := spaceSameUptoRow, standIns := [], harness := (true, "72b8d2288841c0b117850afdb6850d05b7ec74c7cb64528ac213abe5fe94388f"), looks := false }, kinds := [], alts := [], laidByText := true, laidKinds := [.data, .data, .data], laidTests := true, laidLooks := .later }
def SpaceSameUptoCardSaid : Prop := Claim7.holds Tryd.pinned (.plain (OpenSpec.upto spaceSameSpec)) spaceSameUptoCard

/-- THE SECOND FORM's CARD OF 'abatislaw07.SpaceAdds'. -/
def spaceAddsUptoCard : Claim7 := { stood := { row := spaceAddsUptoRow, standIns := [], harness := (true, "72b8d2288841c0b117850afdb6850d05b7ec74c7cb64528ac213abe5fe94388f"), looks := false }, kinds := [], alts := [], laidByText := true, laidKinds := [.data, .data, .data], laidTests := true, laidLooks := .later }
def SpaceAddsUptoCardSaid : Prop := Claim7.holds Tryd.pinned (.plain (OpenSpec.upto spaceAddsSpec)) spaceAddsUptoCard

/-- THE SECOND FORM's CARD OF 'abatislaw07.SpaceLess'. -/
def spaceLessUptoCard : Claim7 := { stood := { row := spaceLessUptoRow, standIns := [], harness := (true, "72b8d2288841c0b117850afdb6850d05b7ec74c7cb64528ac213abe5fe94388f"), looks := false }, kinds := [], alts := [], laidByText := true, laidKinds := [.data, .data, .data], laidTests := true, laidLooks := .later }
def SpaceLessUptoCardSaid : Prop := Claim7.holds Tryd.pinned (.plain (OpenSpec.upto spaceLessSpec)) spaceLessUptoCard

/-- THE SECOND FORM's CARD OF 'abatislaw07.SpaceNames'. -/
def spaceNamesUptoCard : Claim7 := { stood := { row := spaceNamesUptoRow, standIns := [], harness := (true, "72b8d2288841c0b117850afdb6850d05b7ec74c7cb64528ac213abe5fe94388f"), looks := false }, kinds := [], alts := [], laidByText := true, laidKinds := [.data, .data, .data], laidTests := true, laidLooks := .later }
def SpaceNamesUptoCardSaid : Prop := Claim7.holds Tryd.pinned (.plain (OpenSpec.upto spaceNamesSpec)) spaceNamesUptoCard
end Rows
end Go.Proofs.YtjilnigmbnmlfaaDoor
