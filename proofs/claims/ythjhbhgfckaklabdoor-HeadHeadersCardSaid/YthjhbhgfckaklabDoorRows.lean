/-
  NARROWER THAN 'FOR EVERY INPUT', by the rows' own cells (each row's printed sentence says how): HeadLists: laid · HeadWrites: laid · HeadSets: laid · HeadHeaders: laid.
  DERIVED. THE GIVEN ROWS OF THIS SEAT. 4 by the template 'for every input the law returns true; each argument reads behind the call as it read before'; 0 by the template 'total and deterministic' (their statements: YthjhbhgfckaklabDoorTotals.lean).
  GIVEN WITH THE SEED: the statements are not yours to turn. If you find one false, say at which input.
  Laid BY PROGRAM, IN A SANDBOX (cutbox-rows.mjs): the forced cells as the released guide's own fill.sh prints them over the translation 14c69ad270f892d5… (all of the seat's roots in one cut). By AI agents, Wed Nov 11 2026. No macro, syntax, notation, axiom, sorry.
-/
import Derived.Test.YthjhbhgfckaklabDoorChecked
import GoSem.PinnedTables
import GoSem.Claim
import GoSem.ClaimJoined
import GoSem.ClaimMapViews
import Derived.JoinedTies
import Derived.KernelRfl
namespace Go.Proofs.YthjhbhgfckaklabDoor
/- THE CELL 'sum', in the pinned program and in every row, IS THE sha256 OF THE DUMP (.gsa) THAT YthjhbhgfckaklabDoorProg.lean LOADS. Nothing in Lean hashes anything: it is a label: what it is worth is what the hold of that sum in a sandbox is worth. -/
noncomputable def Tryd.pinned : Pinned := { name := "ythjhbhgfckaklabdoor", sum := "14c69ad270f892d5e7e2bde6b9db9d6e418e2e05f5775a671c1f0b8055f2692c", checked := Tryd.checked }
namespace Rows
def none {H : Type} : Left H := { results := [], args := [] }

/- WHAT THE LISTED PACKAGE-LEVEL VARIABLES READ AS WHEN THE CALL BEGINS. Each datum BY PROGRAM (the guide's laid-datum.mjs) off the statement by which the dump's own 'gosem.cut.vars' lays the variable. In a bare row this is a premise. The card (YthjhbhgfckaklabDoorCards.lean) ties it to the program's text. -/
def laid_unicode_utf8_acceptRanges {H : Type} : DataW H := .agg [.agg [.lit (.int .u8 128), .lit (.int .u8 191)], .agg [.lit (.int .u8 160), .lit (.int .u8 191)], .agg [.lit (.int .u8 128), .lit (.int .u8 159)], .agg [.lit (.int .u8 144), .lit (.int .u8 191)], .agg [.lit (.int .u8 128), .lit (.int .u8 143)], .agg [.lit (.int .u8 0), .lit (.int .u8 0)], .agg [.lit (.int .u8 0), .lit (.int .u8 0)], .agg [.lit (.int .u8 0), .lit (.int .u8 0)], .agg [.lit (.int .u8 0), .lit (.int .u8 0)], .agg [.lit (.int .u8 0), .lit (.int .u8 0)], .agg [.lit (.int .u8 0), .lit (.int .u8 0)], .agg [.lit (.int .u8 0), .lit (.int .u8 0)], .agg [.lit (.int .u8 0), .lit (.int .u8 0)], .agg [.lit (.int .u8 0), .lit (.int .u8 0)], .agg [.lit (.int .u8 0), .lit (.int .u8 0)], .agg [.lit (.int .u8 0), .lit (.int .u8 0)]]
/-- One of Go's own tables, pinned by name: the form's constant. -/
def laid_unicode_utf8_first : DataW Unit := Go.Pinned.utf8First

/-- 'abatislaw14.HeadLists': WHATEVER THE INPUT: true; the input reads as it did. -/
def headListsSpec : ChangeSpec := { name := "headLists", fn := fun _ => fun
  | [d] => { results := [.lit (.bool true)], args := [d] }
  | _ => none }
def headListsRow : OpenClaim := { program := "ythjhbhgfckaklabdoor", sum := "14c69ad270f892d5e7e2bde6b9db9d6e418e2e05f5775a671c1f0b8055f2692c", func := "abatis/abatislaw14.HeadLists", spec := "headLists", inPlace := ["internal/bytealg.IndexByteString", "internal/bytealg.IndexString", "internal/bytealg.CountString"], unfollowed := true, recurses := true, named := ["unicode/utf8.first", "unicode/utf8.acceptRanges", "internal/bytealg.MaxLen"], apart := false, laid := [("unicode/utf8.acceptRanges", laid_unicode_utf8_acceptRanges), ("unicode/utf8.first", laid_unicode_utf8_first)] }
def HeadListsSaid : Prop := headListsRow.holds Tryd.pinned (OpenSpec.ofChange headListsSpec)

/-- ITS FALSE NEIGHBOUR: 'it returns false'. Refute it at one input. -/
def headListsWrong : ChangeSpec := { name := "headLists", fn := fun _ => fun
  | [d] => { results := [.lit (.bool false)], args := [d] }
  | _ => none }
def HeadListsWrongFalsely : Prop := headListsRow.holds Tryd.pinned (OpenSpec.ofChange headListsWrong)

/-- 'abatislaw14.HeadWrites': WHATEVER THE INPUT: true; the input reads as it did. -/
def headWritesSpec : ChangeSpec := { name := "headWrites", fn := fun _ => fun
  | [d1, d2, d3] => { results := [.lit (.bool true)], args := [d1, d2, d3] }
  | _ => none }
def headWritesRow : OpenClaim := { program := "ythjhbhgfckaklabdoor", sum := "14c69ad270f892d5e7e2bde6b9db9d6e418e2e05f5775a671c1f0b8055f2692c", func := "abatis/abatislaw14.HeadWrites", spec := "headWrites", inPlace := ["internal/bytealg.IndexByteString", "internal/bytealg.IndexString", "internal/abi.NoEscape", "internal/bytealg.CountString"], unfollowed := true, recurses := true, named := ["unicode/utf8.first", "unicode/utf8.acceptRanges", "internal/bytealg.MaxLen"], apart := false, laid := [("unicode/utf8.acceptRanges", laid_unicode_utf8_acceptRanges), ("unicode/utf8.first", laid_unicode_utf8_first)] }
def HeadWritesSaid : Prop := headWritesRow.holds Tryd.pinned (OpenSpec.ofChange headWritesSpec)

/-- ITS FALSE NEIGHBOUR: 'it returns false'. Refute it at one input. -/
def headWritesWrong : ChangeSpec := { name := "headWrites", fn := fun _ => fun
  | [d1, d2, d3] => { results := [.lit (.bool false)], args := [d1, d2, d3] }
  | _ => none }
def HeadWritesWrongFalsely : Prop := headWritesRow.holds Tryd.pinned (OpenSpec.ofChange headWritesWrong)

/-- 'abatislaw14.HeadSets': WHATEVER THE INPUT: true; the input reads as it did. -/
def headSetsSpec : ChangeSpec := { name := "headSets", fn := fun _ => fun
  | [d1, d2, d3] => { results := [.lit (.bool true)], args := [d1, d2, d3] }
  | _ => none }
def headSetsRow : OpenClaim := { program := "ythjhbhgfckaklabdoor", sum := "14c69ad270f892d5e7e2bde6b9db9d6e418e2e05f5775a671c1f0b8055f2692c", func := "abatis/abatislaw14.HeadSets", spec := "headSets", inPlace := ["slices.overlaps[abatis/api.Header]", "internal/bytealg.IndexByteString", "internal/bytealg.IndexString", "internal/bytealg.CountString"], unfollowed := true, recurses := true, named := ["internal/bytealg.MaxLen", "unicode/utf8.first", "unicode/utf8.acceptRanges"], apart := false, laid := [("unicode/utf8.acceptRanges", laid_unicode_utf8_acceptRanges), ("unicode/utf8.first", laid_unicode_utf8_first)] }
def HeadSetsSaid : Prop := headSetsRow.holds Tryd.pinned (OpenSpec.ofChange headSetsSpec)

/-- ITS FALSE NEIGHBOUR: 'it returns false'. Refute it at one input. -/
def headSetsWrong : ChangeSpec := { name := "headSets", fn := fun _ => fun
  | [d1, d2, d3] => { results := [.lit (.bool false)], args := [d1, d2, d3] }
  | _ => none }
def HeadSetsWrongFalsely : Prop := headSetsRow.holds Tryd.pinned (OpenSpec.ofChange headSetsWrong)

/-- 'abatislaw14.HeadHeaders': WHATEVER THE INPUT: true; the input reads as it did. -/
def headHeadersSpec : ChangeSpec := { name := "headHeaders", fn := fun _ => fun
  | [d1, d2, d3, d4] => { results := [.lit (.bool true)], args := [d1, d2, d3, d4] }
  | _ => none }
def headHeadersRow : OpenClaim := { program := "ythjhbhgfckaklabdoor", sum := "14c69ad270f892d5e7e2bde6b9db9d6e418e2e05f5775a671c1f0b8055f2692c", func := "abatis/abatislaw14.HeadHeaders", spec := "headHeaders", inPlace := ["slices.overlaps[abatis/api.Header]", "internal/bytealg.IndexByteString", "internal/bytealg.IndexString", "internal/bytealg.CountString"], unfollowed := true, recurses := true, named := ["unicode/utf8.first", "unicode/utf8.acceptRanges", "internal/bytealg.MaxLen"], apart := false, laid := [("unicode/utf8.acceptRanges", laid_unicode_utf8_acceptRanges), ("unicode/utf8.first", laid_unicode_utf8_first)] }
def HeadHeadersSaid : Prop := headHeadersRow.holds Tryd.pinned (OpenSpec.ofChange headHeadersSpec)

/-- ITS FALSE NEIGHBOUR: 'it returns false'. Refute it at one input. -/
def headHeadersWrong : ChangeSpec := { name := "headHeaders", fn := fun _ => fun
  | [d1, d2, d3, d4] => { results := [.lit (.bool false)], args := [d1, d2, d3, d4] }
  | _ => none }
def HeadHeadersWrongFalsely : Prop := headHeadersRow.holds Tryd.pinned (OpenSpec.ofChange headHeadersWrong)

/- THE SECOND FORM. 'bulk': how many values and letters a reading holds, each counted each time it is reached (what is shared counts as often as it is met; a slice's spare places count too). A statement '..UptoSaid' is the law's where the arguments, and the package variables that the reading takes, are together of bulk at most 1048576: NARROWER than '..Said'. Prove '..Said' where nothing that the law and all that it calls make is longer than what came in: it says more and counts as full. Else prove '..UptoSaid'. A law counts once. -/
mutual
def uptoBulk {H : Type} : DataW H → Nat
  | .lit (.string bytes) => bytes.length + 1
  | .lit _ => 1
  | .nil => 1
  | .ptr d => uptoBulk d + 1
  | .slice elems spare => uptoBulkAll elems + uptoBulkAll spare + 1
  | .agg parts => uptoBulkAll parts + 1
  | .iface _ d => uptoBulk d + 1
  | .map entries => uptoBulkEntries entries + 1
  | .held _ => 1
def uptoBulkAll {H : Type} : List (DataW H) → Nat
  | [] => 0
  | d :: r => uptoBulk d + uptoBulkAll r
def uptoBulkEntries {H : Type} : List (Lit × DataW H) → Nat
  | [] => 0
  | x :: r => uptoBulkEntry x + uptoBulkEntries r
def uptoBulkEntry {H : Type} : Lit × DataW H → Nat
  | (.string bytes, d) => bytes.length + uptoBulk d + 1
  | (_, d) => uptoBulk d + 1
 end
def uptoSmall : (H : Type) → List (DataW H) → Bool := fun _ ds => decide (uptoBulkAll ds ≤ 1048576)
def OpenSpec.upto (s : _root_.Go.ChangeSpec) : _root_.Go.OpenSpec := { _root_.Go.OpenSpec.ofChange s with cond := some uptoSmall }

/-- 'abatislaw14.HeadLists', WHERE WHAT IT READS IS OF BULK AT MOST 1048576: true; the input reads as it did. -/
def headListsUptoRow : OpenClaim := { program := "ythjhbhgfckaklabdoor", sum := "14c69ad270f892d5e7e2bde6b9db9d6e418e2e05f5775a671c1f0b8055f2692c", func := "abatis/abatislaw14.HeadLists", spec := "headLists", inPlace := ["internal/bytealg.IndexByteString", "internal/bytealg.IndexString", "internal/bytealg.CountString"], unfollowed := true, recurses := true, named := ["unicode/utf8.first", "unicode/utf8.acceptRanges", "internal/bytealg.MaxLen"], apart := false, laid := [("unicode/utf8.acceptRanges", laid_unicode_utf8_acceptRanges), ("unicode/utf8.first", laid_unicode_utf8_first)], narrowed := true }
def HeadListsUptoSaid : Prop := headListsUptoRow.holds Tryd.pinned (OpenSpec.upto headListsSpec)

/-- 'abatislaw14.HeadWrites', WHERE WHAT IT READS IS OF BULK AT MOST 1048576: true; the input reads as it did. -/
def headWritesUptoRow : OpenClaim := { program := "ythjhbhgfckaklabdoor", sum := "14c69ad270f892d5e7e2bde6b9db9d6e418e2e05f5775a671c1f0b8055f2692c", func := "abatis/abatislaw14.HeadWrites", spec := "headWrites", inPlace := ["internal/bytealg.IndexByteString", "internal/bytealg.IndexString", "internal/abi.NoEscape", "internal/bytealg.CountString"], unfollowed := true, recurses := true, named := ["unicode/utf8.first", "unicode/utf8.acceptRanges", "internal/bytealg.MaxLen"], apart := false, laid := [("unicode/utf8.acceptRanges", laid_unicode_utf8_acceptRanges), ("unicode/utf8.first", laid_unicode_utf8_first)], narrowed := true }
def HeadWritesUptoSaid : Prop := headWritesUptoRow.holds Tryd.pinned (OpenSpec.upto headWritesSpec)

/-- 'abatislaw14.HeadSets', WHERE WHAT IT READS IS OF BULK AT MOST 1048576: true; the input reads as it did. -/
def headSetsUptoRow : OpenClaim := { program := "ythjhbhgfckaklabdoor", sum := "14c69ad270f892d5e7e2bde6b9db9d6e418e2e05f5775a671c1f0b8055f2692c", func := "abatis/abatislaw14.HeadSets", spec := "headSets", inPlace := ["slices.overlaps[abatis/api.Header]", "internal/bytealg.IndexByteString", "internal/bytealg.IndexString", "internal/bytealg.CountString"], unfollowed := true, recurses := true, named := ["internal/bytealg.MaxLen", "unicode/utf8.first", "unicode/utf8.acceptRanges"], apart := false, laid := [("unicode/utf8.acceptRanges", laid_unicode_utf8_acceptRanges), ("unicode/utf8.first", laid_unicode_utf8_first)], narrowed := true }
def HeadSetsUptoSaid : Prop := headSetsUptoRow.holds Tryd.pinned (OpenSpec.upto headSetsSpec)

/-- 'abatislaw14.HeadHeaders', WHERE WHAT IT READS IS OF BULK AT MOST 1048576: true; the input reads as it did. -/
def headHeadersUptoRow : OpenClaim := { program := "ythjhbhgfckaklabdoor", sum := "14c69ad270f892d5e7e2bde6b9db9d6e418e2e05f5775a671c1f0b8055f2692c", func := "abatis/abatislaw14.HeadHeaders", spec := "headHeaders", inPlace := ["slices.overlaps[abatis/api.Header]", "internal/bytealg.IndexByteString", "internal/bytealg.IndexString", "internal/bytealg.CountString"], unfollowed := true, recurses := true, named := ["unicode/utf8.first", "unicode/utf8.acceptRanges", "internal/bytealg.MaxLen"], apart := false, laid := [("unicode/utf8.acceptRanges", laid_unicode_utf8_acceptRanges), ("unicode/utf8.first", laid_unicode_utf8_first)], narrowed := true }
def HeadHeadersUptoSaid : Prop := headHeadersUptoRow.holds Tryd.pinned (OpenSpec.upto headHeadersSpec)

end Rows
end Go.Proofs.YthjhbhgfckaklabDoor
