/-
  DERIVED. GIVEN WITH THE SEED: THE CARDS: each row of YthjhbhgfckaklabDoorRows.lean that lists a variable, with what it lists TIED to the program's text (the seventh form; the later family's looks); each row that meets fmt, with fmt's text TOLD by the authors' own Lean function (tested against real Go, not proved from fmt's source: count such statements apart). THE CARD IS WHAT COUNTS. Prove the row's statement (the work); the ties are given (YthjhbhgfckaklabDoorTie.lean); close each card by the builder's one call (the guide's Derived/Test/ToyasCard.lean, 'card_holds'). Laid BY PROGRAM, IN A SANDBOX (cutbox-door.mjs). By AI agents, Wed Nov 11 2026. No macro, syntax, notation, axiom, sorry.
-/
import Derived.Test.YthjhbhgfckaklabDoorRows
import GoSem.ClaimSeven
namespace Go.Proofs.YthjhbhgfckaklabDoor
namespace Rows

/-- THE TIED CARD OF 'abatislaw14.HeadLists'. -/
def headListsCard : Claim7 := { stood := { row := headListsRow, standIns := [], harness := (true, "d9c26a9f23ed8f77bb2f3183e14de6288f6df546fbd6a45dc425f3c86f0e3dc2"), looks := false }, kinds := [], alts := [], laidByText := true, laidKinds := [.data, .pinned], laidTests := true, laidLooks := .later }
def HeadListsCardSaid : Prop := Claim7.holds Tryd.pinned (.plain (OpenSpec.ofChange headListsSpec)) headListsCard

/-- THE TIED CARD OF 'abatislaw14.HeadWrites'. -/
def headWritesCard : Claim7 := { stood := { row := headWritesRow, standIns := [], harness := (true, "d9c26a9f23ed8f77bb2f3183e14de6288f6df546fbd6a45dc425f3c86f0e3dc2"), looks := false }, kinds := [], alts := [], laidByText := true, laidKinds := [.data, .pinned], laidTests := true, laidLooks := .later }
def HeadWritesCardSaid : Prop := Claim7.holds Tryd.pinned (.plain (OpenSpec.ofChange headWritesSpec)) headWritesCard

/-- THE TIED CARD OF 'abatislaw14.HeadSets'. -/
def headSetsCard : Claim7 := { stood := { row := headSetsRow, standIns := [], harness := (true, "d9c26a9f23ed8f77bb2f3183e14de6288f6df546fbd6a45dc425f3c86f0e3dc2"), looks := false }, kinds := [], alts := [], laidByText := true, laidKinds := [.data, .pinned], laidTests := true, laidLooks := .later }
def HeadSetsCardSaid : Prop := Claim7.holds Tryd.pinned (.plain (OpenSpec.ofChange headSetsSpec)) headSetsCard

/-- THE TIED CARD OF 'abatislaw14.HeadHeaders'. -/
def headHeadersCard : Claim7 := { stood := { row := headHeadersRow, standIns := [], harness := (true, "d9c26a9f23ed8f77bb2f3183e14de6288f6df546fbd6a45dc425f3c86f0e3dc2"), looks := false }, kinds := [], alts := [], laidByText := true, laidKinds := [.data, .pinned], laidTests := true, laidLooks := .later }
def HeadHeadersCardSaid : Prop := Claim7.holds Tryd.pinned (.plain (OpenSpec.ofChange headHeadersSpec)) headHeadersCard

/-- THE SECOND FORM's CARD OF 'abatislaw14.HeadLists'. -/
def headListsUptoCard : Claim7 := { stood := { row := headListsUptoRow, standIns := [], harness := (true, "d9c26a9f23ed8f77bb2f3183e14de6288f6df546fbd6a45dc425f3c86f0e3dc2"), looks := false }, kinds := [], alts := [], laidByText := true, laidKinds := [.data, .pinned], laidTests := true, laidLooks := .later }
def HeadListsUptoCardSaid : Prop := Claim7.holds Tryd.pinned (.plain (OpenSpec.upto headListsSpec)) headListsUptoCard

/-- THE SECOND FORM's CARD OF 'abatislaw14.HeadWrites'. -/
def headWritesUptoCard : Claim7 := { stood := { row := headWritesUptoRow, standIns := [], harness := (true, "d9c26a9f23ed8f77bb2f3183e14de6288f6df546fbd6a45dc425f3c86f0e3dc2"), looks := false }, kinds := [], alts := [], laidByText := true, laidKinds := [.data, .pinned], laidTests := true, laidLooks := .later }
def HeadWritesUptoCardSaid : Prop := Claim7.holds Tryd.pinned (.plain (OpenSpec.upto headWritesSpec)) headWritesUptoCard

/-- THE SECOND FORM's CARD OF 'abatislaw14.HeadSets'. -/
def headSetsUptoCard : Claim7 := { stood := { row := headSetsUptoRow, standIns := [], harness := (true, "d9c26a9f23ed8f77bb2f3183e14de6288f6df546fbd6a45dc425f3c86f0e3dc2"), looks := false }, kinds := [], alts := [], laidByText := true, laidKinds := [.data, .pinned], laidTests := true, laidLooks := .later }
def HeadSetsUptoCardSaid : Prop := Claim7.holds Tryd.pinned (.plain (OpenSpec.upto headSetsSpec)) headSetsUptoCard

/-- THE SECOND FORM's CARD OF 'abatislaw14.HeadHeaders'. -/
def headHeadersUptoCard : Claim7 := { stood := { row := headHeadersUptoRow, standIns := [], harness := (true, "d9c26a9f23ed8f77bb2f3183e14de6288f6df546fbd6a45dc425f3c86f0e3dc2"), looks := false }, kinds := [], alts := [], laidByText := true, laidKinds := [.data, .pinned], laidTests := true, laidLooks := .later }
def HeadHeadersUptoCardSaid : Prop := Claim7.holds Tryd.pinned (.plain (OpenSpec.upto headHeadersSpec)) headHeadersUptoCard
end Rows
end Go.Proofs.YthjhbhgfckaklabDoor
