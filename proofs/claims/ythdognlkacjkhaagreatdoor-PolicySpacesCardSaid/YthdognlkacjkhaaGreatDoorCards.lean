/-
  DERIVED. GIVEN WITH THE SEED: THE CARDS: each row of YthdognlkacjkhaaGreatDoorRows.lean that lists a variable, with what it lists TIED to the program's text (the seventh form; the later family's looks); each row that meets fmt, with fmt's text TOLD by the authors' own Lean function (tested against real Go, not proved from fmt's source: count such statements apart). THE CARD IS WHAT COUNTS. Prove the row's statement (the work); the ties are given (YthdognlkacjkhaaGreatDoorTie.lean); close each card by the builder's one call (the guide's Derived/Test/ToyasCard.lean, 'card_holds'). Laid BY PROGRAM, IN A SANDBOX (cutbox-door.mjs). By AI agents, Wed Nov 11 2026. No macro, syntax, notation, axiom, sorry.
-/
import Derived.Test.YthdognlkacjkhaaGreatDoorRows
import GoSem.ClaimSeven
namespace Go.Proofs.YthdognlkacjkhaaGreatDoor
namespace Rows

/-- THE TIED CARD OF 'abatislaw16.PolicySpaces'. -/
def policySpacesCard : Claim7 := { stood := { row := policySpacesRow, standIns := [], harness := (true, "51078665da8a9d8bf006aadde34e8b3df80042ab42c64d017ce603f532d9adcf"), looks := false }, kinds := [], alts := [], laidByText := true, laidKinds := [.data, .data, .data, .data, .pinned], laidTests := true, laidLooks := .later }
def PolicySpacesCardSaid : Prop := Claim7.holds Tryz.pinned (.plain (OpenSpec.ofChange policySpacesSpec)) policySpacesCard

/-- THE SECOND FORM's CARD OF 'abatislaw16.PolicySpaces'. -/
def policySpacesUptoCard : Claim7 := { stood := { row := policySpacesUptoRow, standIns := [], harness := (true, "51078665da8a9d8bf006aadde34e8b3df80042ab42c64d017ce603f532d9adcf"), looks := false }, kinds := [], alts := [], laidByText := true, laidKinds := [.data, .data, .data, .data, .pinned], laidTests := true, laidLooks := .later }
def PolicySpacesUptoCardSaid : Prop := Claim7.holds Tryz.pinned (.plain (OpenSpec.upto policySpacesSpec)) policySpacesUptoCard
end Rows
end Go.Proofs.YthdognlkacjkhaaGreatDoor
