/-
  DERIVED. GIVEN WITH THE SEED: THE CARDS: each row of YtcpeecacoblbhaaDoorRows.lean that lists a variable, with what it lists TIED to the program's text (the seventh form; the later family's looks); each row that meets fmt, with fmt's text TOLD by the authors' own Lean function (tested against real Go, not proved from fmt's source: count such statements apart). THE CARD IS WHAT COUNTS. Prove the row's statement (the work); the ties are given (YtcpeecacoblbhaaDoorTie.lean); close each card by the builder's one call (the guide's Derived/Test/ToyasCard.lean, 'card_holds'). Laid BY PROGRAM, IN A SANDBOX (cutbox-door.mjs). By AI agents, Wed Nov 11 2026. No macro, syntax, notation, axiom, sorry.
-/
import Derived.Test.YtcpeecacoblbhaaDoorRows
import GoSem.ClaimSeven
namespace Go.Proofs.YtcpeecacoblbhaaDoor
namespace Rows

/-- THE TIED CARD OF 'abatislaw01.TextNumbers'. -/
def textNumbersCard : Claim7 := { stood := { row := textNumbersRow, standIns := [], harness := (true, "b9bb008031bc24041f5886ae44e21c6e2234d4a7f8d5623936e29d1441921c64"), looks := false }, kinds := [], alts := [], laidByText := true, laidKinds := [.data, .data, .data], laidTests := true, laidLooks := .later }
def TextNumbersCardSaid : Prop := Claim7.holds Tryd.pinned (.plain (OpenSpec.ofChange textNumbersSpec)) textNumbersCard

/-- THE TIED CARD OF 'abatislaw01.TextPieces'. -/
def textPiecesCard : Claim7 := { stood := { row := textPiecesRow, standIns := [], harness := (true, "b9bb008031bc24041f5886ae44e21c6e2234d4a7f8d5623936e29d1441921c64"), looks := false }, kinds := [], alts := [], laidByText := true, laidKinds := [.data, .pinned], laidTests := true, laidLooks := .later }
def TextPiecesCardSaid : Prop := Claim7.holds Tryd.pinned (.plain (OpenSpec.ofChange textPiecesSpec)) textPiecesCard

/-- THE SECOND FORM's CARD OF 'abatislaw01.TextNumbers'. -/
def textNumbersUptoCard : Claim7 := { stood := { row := textNumbersUptoRow, standIns := [], harness := (true, "b9bb008031bc24041f5886ae44e21c6e2234d4a7f8d5623936e29d1441921c64"), looks := false }, kinds := [], alts := [], laidByText := true, laidKinds := [.data, .data, .data], laidTests := true, laidLooks := .later }
def TextNumbersUptoCardSaid : Prop := Claim7.holds Tryd.pinned (.plain (OpenSpec.upto textNumbersSpec)) textNumbersUptoCard

/-- THE SECOND FORM's CARD OF 'abatislaw01.TextPieces'. -/
def textPiecesUptoCard : Claim7 := { stood := { row := textPiecesUptoRow, standIns := [], harness := (true, "b9bb008031bc24041f5886ae44e21c6e2234d4a7f8d5623936e29d1441921c64"), looks := false }, kinds := [], alts := [], laidByText := true, laidKinds := [.data, .pinned], laidTests := true, laidLooks := .later }
def TextPiecesUptoCardSaid : Prop := Claim7.holds Tryd.pinned (.plain (OpenSpec.upto textPiecesSpec)) textPiecesUptoCard
end Rows
end Go.Proofs.YtcpeecacoblbhaaDoor
