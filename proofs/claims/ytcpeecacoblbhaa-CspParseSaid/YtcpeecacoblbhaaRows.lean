/-
  No cell of these rows narrows 'for every input' (looked for: loops, veiled, ifaces, maps, wideKeys, modest, calm, conditions, laid).
  DERIVED. THE GIVEN ROWS OF THIS SEAT. 8 by the template 'for every input the law returns true; each argument reads behind the call as it read before'; 0 by the template 'total and deterministic' (their statements: YtcpeecacoblbhaaTotals.lean).
  GIVEN WITH THE SEED: the statements are not yours to turn. If you find one false, say at which input.
  Laid BY PROGRAM, IN A SANDBOX (cutbox-rows.mjs): the forced cells as the released guide's own fill.sh prints them over the translation 76e40f77d6a55841… (all of the seat's roots in one cut). By AI agents, Wed Nov 11 2026. No macro, syntax, notation, axiom, sorry.
-/
import Derived.Test.YtcpeecacoblbhaaChecked
import GoSem.Claim
import GoSem.ClaimJoined
import GoSem.ClaimMapViews
import Derived.JoinedTies
import Derived.KernelRfl
namespace Go.Proofs.Ytcpeecacoblbhaa
/- THE CELL 'sum', in the pinned program and in every row, IS THE sha256 OF THE DUMP (.gsa) THAT YtcpeecacoblbhaaProg.lean LOADS. Nothing in Lean hashes anything: it is a label: what it is worth is what the hold of that sum in a sandbox is worth. -/
noncomputable def Try.pinned : Pinned := { name := "ytcpeecacoblbhaa", sum := "76e40f77d6a5584131c2074de7174c2ccc7a02ca5b08a1ce00478aae46bf1feb", checked := Try.checked }
namespace Rows
def none {H : Type} : Left H := { results := [], args := [] }

/-- 'abatislaw01.TextSigns': WHATEVER THE INPUT: true; the input reads as it did. -/
def textSignsSpec : ChangeSpec := { name := "textSigns", fn := fun _ => fun
  | [d1, d2] => { results := [.lit (.bool true)], args := [d1, d2] }
  | _ => none }
def textSignsRow : OpenClaim := { program := "ytcpeecacoblbhaa", sum := "76e40f77d6a5584131c2074de7174c2ccc7a02ca5b08a1ce00478aae46bf1feb", func := "abatis/abatislaw01.TextSigns", spec := "textSigns", apart := false }
def TextSignsSaid : Prop := textSignsRow.holds Try.pinned (OpenSpec.ofChange textSignsSpec)

/-- ITS FALSE NEIGHBOUR: 'it returns false'. Refute it at one input. -/
def textSignsWrong : ChangeSpec := { name := "textSigns", fn := fun _ => fun
  | [d1, d2] => { results := [.lit (.bool false)], args := [d1, d2] }
  | _ => none }
def TextSignsWrongFalsely : Prop := textSignsRow.holds Try.pinned (OpenSpec.ofChange textSignsWrong)

/-- 'abatislaw01.TextCases': WHATEVER THE INPUT: true; the input reads as it did. -/
def textCasesSpec : ChangeSpec := { name := "textCases", fn := fun _ => fun
  | [d1, d2] => { results := [.lit (.bool true)], args := [d1, d2] }
  | _ => none }
def textCasesRow : OpenClaim := { program := "ytcpeecacoblbhaa", sum := "76e40f77d6a5584131c2074de7174c2ccc7a02ca5b08a1ce00478aae46bf1feb", func := "abatis/abatislaw01.TextCases", spec := "textCases", apart := false }
def TextCasesSaid : Prop := textCasesRow.holds Try.pinned (OpenSpec.ofChange textCasesSpec)

/-- ITS FALSE NEIGHBOUR: 'it returns false'. Refute it at one input. -/
def textCasesWrong : ChangeSpec := { name := "textCases", fn := fun _ => fun
  | [d1, d2] => { results := [.lit (.bool false)], args := [d1, d2] }
  | _ => none }
def TextCasesWrongFalsely : Prop := textCasesRow.holds Try.pinned (OpenSpec.ofChange textCasesWrong)

/-- 'abatislaw01.TextRows': WHATEVER THE INPUT: true; the input reads as it did. -/
def textRowsSpec : ChangeSpec := { name := "textRows", fn := fun _ => fun
  | [d1, d2] => { results := [.lit (.bool true)], args := [d1, d2] }
  | _ => none }
def textRowsRow : OpenClaim := { program := "ytcpeecacoblbhaa", sum := "76e40f77d6a5584131c2074de7174c2ccc7a02ca5b08a1ce00478aae46bf1feb", func := "abatis/abatislaw01.TextRows", spec := "textRows", apart := false }
def TextRowsSaid : Prop := textRowsRow.holds Try.pinned (OpenSpec.ofChange textRowsSpec)

/-- ITS FALSE NEIGHBOUR: 'it returns false'. Refute it at one input. -/
def textRowsWrong : ChangeSpec := { name := "textRows", fn := fun _ => fun
  | [d1, d2] => { results := [.lit (.bool false)], args := [d1, d2] }
  | _ => none }
def TextRowsWrongFalsely : Prop := textRowsRow.holds Try.pinned (OpenSpec.ofChange textRowsWrong)

/-- 'abatislaw01.TextBases': WHATEVER THE INPUT: true; the input reads as it did. -/
def textBasesSpec : ChangeSpec := { name := "textBases", fn := fun _ => fun
  | [d] => { results := [.lit (.bool true)], args := [d] }
  | _ => none }
def textBasesRow : OpenClaim := { program := "ytcpeecacoblbhaa", sum := "76e40f77d6a5584131c2074de7174c2ccc7a02ca5b08a1ce00478aae46bf1feb", func := "abatis/abatislaw01.TextBases", spec := "textBases", apart := false }
def TextBasesSaid : Prop := textBasesRow.holds Try.pinned (OpenSpec.ofChange textBasesSpec)

/-- ITS FALSE NEIGHBOUR: 'it returns false'. Refute it at one input. -/
def textBasesWrong : ChangeSpec := { name := "textBases", fn := fun _ => fun
  | [d] => { results := [.lit (.bool false)], args := [d] }
  | _ => none }
def TextBasesWrongFalsely : Prop := textBasesRow.holds Try.pinned (OpenSpec.ofChange textBasesWrong)

/-- 'abatislaw15.CspTwice': WHATEVER THE INPUT: true; the input reads as it did. -/
def cspTwiceSpec : ChangeSpec := { name := "cspTwice", fn := fun _ => fun
  | [d1, d2] => { results := [.lit (.bool true)], args := [d1, d2] }
  | _ => none }
def cspTwiceRow : OpenClaim := { program := "ytcpeecacoblbhaa", sum := "76e40f77d6a5584131c2074de7174c2ccc7a02ca5b08a1ce00478aae46bf1feb", func := "abatis/abatislaw15.CspTwice", spec := "cspTwice", unfollowed := true, recurses := true, apart := false }
def CspTwiceSaid : Prop := cspTwiceRow.holds Try.pinned (OpenSpec.ofChange cspTwiceSpec)

/-- ITS FALSE NEIGHBOUR: 'it returns false'. Refute it at one input. -/
def cspTwiceWrong : ChangeSpec := { name := "cspTwice", fn := fun _ => fun
  | [d1, d2] => { results := [.lit (.bool false)], args := [d1, d2] }
  | _ => none }
def CspTwiceWrongFalsely : Prop := cspTwiceRow.holds Try.pinned (OpenSpec.ofChange cspTwiceWrong)

/-- 'abatislaw15.CspParse': WHATEVER THE INPUT: true; the input reads as it did. -/
def cspParseSpec : ChangeSpec := { name := "cspParse", fn := fun _ => fun
  | [d1, d2] => { results := [.lit (.bool true)], args := [d1, d2] }
  | _ => none }
def cspParseRow : OpenClaim := { program := "ytcpeecacoblbhaa", sum := "76e40f77d6a5584131c2074de7174c2ccc7a02ca5b08a1ce00478aae46bf1feb", func := "abatis/abatislaw15.CspParse", spec := "cspParse", unfollowed := true, recurses := true, apart := false }
def CspParseSaid : Prop := cspParseRow.holds Try.pinned (OpenSpec.ofChange cspParseSpec)

/-- ITS FALSE NEIGHBOUR: 'it returns false'. Refute it at one input. -/
def cspParseWrong : ChangeSpec := { name := "cspParse", fn := fun _ => fun
  | [d1, d2] => { results := [.lit (.bool false)], args := [d1, d2] }
  | _ => none }
def CspParseWrongFalsely : Prop := cspParseRow.holds Try.pinned (OpenSpec.ofChange cspParseWrong)

/-- 'abatislaw01.TextKinds': WHATEVER THE INPUT: true; the input reads as it did. -/
def textKindsSpec : ChangeSpec := { name := "textKinds", fn := fun _ => fun
  | [d] => { results := [.lit (.bool true)], args := [d] }
  | _ => none }
def textKindsRow : OpenClaim := { program := "ytcpeecacoblbhaa", sum := "76e40f77d6a5584131c2074de7174c2ccc7a02ca5b08a1ce00478aae46bf1feb", func := "abatis/abatislaw01.TextKinds", spec := "textKinds", inPlace := ["internal/bytealg.IndexByteString", "internal/bytealg.IndexString"], unfollowed := true, recurses := true, named := ["internal/bytealg.MaxLen"], apart := false }
def TextKindsSaid : Prop := textKindsRow.holds Try.pinned (OpenSpec.ofChange textKindsSpec)

/-- ITS FALSE NEIGHBOUR: 'it returns false'. Refute it at one input. -/
def textKindsWrong : ChangeSpec := { name := "textKinds", fn := fun _ => fun
  | [d] => { results := [.lit (.bool false)], args := [d] }
  | _ => none }
def TextKindsWrongFalsely : Prop := textKindsRow.holds Try.pinned (OpenSpec.ofChange textKindsWrong)

/-- 'abatislaw15.CspRound': WHATEVER THE INPUT: true; the input reads as it did. -/
def cspRoundSpec : ChangeSpec := { name := "cspRound", fn := fun _ => fun
  | [d1, d2] => { results := [.lit (.bool true)], args := [d1, d2] }
  | _ => none }
def cspRoundRow : OpenClaim := { program := "ytcpeecacoblbhaa", sum := "76e40f77d6a5584131c2074de7174c2ccc7a02ca5b08a1ce00478aae46bf1feb", func := "abatis/abatislaw15.CspRound", spec := "cspRound", inPlace := ["internal/abi.NoEscape", "internal/bytealg.MakeNoZero"], unfollowed := true, recurses := true, apart := false }
def CspRoundSaid : Prop := cspRoundRow.holds Try.pinned (OpenSpec.ofChange cspRoundSpec)

/-- ITS FALSE NEIGHBOUR: 'it returns false'. Refute it at one input. -/
def cspRoundWrong : ChangeSpec := { name := "cspRound", fn := fun _ => fun
  | [d1, d2] => { results := [.lit (.bool false)], args := [d1, d2] }
  | _ => none }
def CspRoundWrongFalsely : Prop := cspRoundRow.holds Try.pinned (OpenSpec.ofChange cspRoundWrong)

/- THE SECOND FORM. 'bulk': how many values and letters a reading holds, each counted each time it is reached (what is shared counts as often as it is met; a slice's spare places count too). A statement '..UptoSaid' is the law's where the arguments, and the package variables that the reading takes, are together of bulk at most 1048576: NARROWER than '..Said'. Prove '..Said' where nothing that the law and all that it calls make is longer than what came in: it says more and counts as full. Else prove '..UptoSaid'. A law counts once. -/
mutual
def uptoBulk {H : Type} : DataW H → Nat
  | .lit (.string bytes) => bytes.length + 1
  | .lit _ => 1
  | .nil => 1
  | .ptr d => uptoBulk d + 1
  | .slice elems spare => uptoBulkAll elems + uptoBulkAll spare + 1
  | .agg parts => uptoBulkAll parts + 1
  | .iface _ d => uptoBulk d + 1
  | .map entries => uptoBulkEntries entries + 1
  | .held _ => 1
def uptoBulkAll {H : Type} : List (DataW H) → Nat
  | [] => 0
  | d :: r => uptoBulk d + uptoBulkAll r
def uptoBulkEntries {H : Type} : List (Lit × DataW H) → Nat
  | [] => 0
  | x :: r => uptoBulkEntry x + uptoBulkEntries r
def uptoBulkEntry {H : Type} : Lit × DataW H → Nat
  | (.string bytes, d) => bytes.length + uptoBulk d + 1
  | (_, d) => uptoBulk d + 1
 end
def uptoSmall : (H : Type) → List (DataW H) → Bool := fun _ ds => decide (uptoBulkAll ds ≤ 1048576)
def OpenSpec.upto (s : _root_.Go.ChangeSpec) : _root_.Go.OpenSpec := { _root_.Go.OpenSpec.ofChange s with cond := some uptoSmall }

/-- 'abatislaw01.TextSigns', WHERE WHAT IT READS IS OF BULK AT MOST 1048576: true; the input reads as it did. -/
def textSignsUptoRow : OpenClaim := { program := "ytcpeecacoblbhaa", sum := "76e40f77d6a5584131c2074de7174c2ccc7a02ca5b08a1ce00478aae46bf1feb", func := "abatis/abatislaw01.TextSigns", spec := "textSigns", apart := false, narrowed := true }
def TextSignsUptoSaid : Prop := textSignsUptoRow.holds Try.pinned (OpenSpec.upto textSignsSpec)

/-- 'abatislaw01.TextCases', WHERE WHAT IT READS IS OF BULK AT MOST 1048576: true; the input reads as it did. -/
def textCasesUptoRow : OpenClaim := { program := "ytcpeecacoblbhaa", sum := "76e40f77d6a5584131c2074de7174c2ccc7a02ca5b08a1ce00478aae46bf1feb", func := "abatis/abatislaw01.TextCases", spec := "textCases", apart := false, narrowed := true }
def TextCasesUptoSaid : Prop := textCasesUptoRow.holds Try.pinned (OpenSpec.upto textCasesSpec)

/-- 'abatislaw01.TextRows', WHERE WHAT IT READS IS OF BULK AT MOST 1048576: true; the input reads as it did. -/
def textRowsUptoRow : OpenClaim := { program := "ytcpeecacoblbhaa", sum := "76e40f77d6a5584131c2074de7174c2ccc7a02ca5b08a1ce00478aae46bf1feb", func := "abatis/abatislaw01.TextRows", spec := "textRows", apart := false, narrowed := true }
def TextRowsUptoSaid : Prop := textRowsUptoRow.holds Try.pinned (OpenSpec.upto textRowsSpec)

/-- 'abatislaw01.TextBases', WHERE WHAT IT READS IS OF BULK AT MOST 1048576: true; the input reads as it did. -/
def textBasesUptoRow : OpenClaim := { program := "ytcpeecacoblbhaa", sum := "76e40f77d6a5584131c2074de7174c2ccc7a02ca5b08a1ce00478aae46bf1feb", func := "abatis/abatislaw01.TextBases", spec := "textBases", apart := false, narrowed := true }
def TextBasesUptoSaid : Prop := textBasesUptoRow.holds Try.pinned (OpenSpec.upto textBasesSpec)

/-- 'abatislaw15.CspTwice', WHERE WHAT IT READS IS OF BULK AT MOST 1048576: true; the input reads as it did. -/
def cspTwiceUptoRow : OpenClaim := { program := "ytcpeecacoblbhaa", sum := "76e40f77d6a5584131c2074de7174c2ccc7a02ca5b08a1ce00478aae46bf1feb", func := "abatis/abatislaw15.CspTwice", spec := "cspTwice", unfollowed := true, recurses := true, apart := false, narrowed := true }
def CspTwiceUptoSaid : Prop := cspTwiceUptoRow.holds Try.pinned (OpenSpec.upto cspTwiceSpec)

/-- 'abatislaw15.CspParse', WHERE WHAT IT READS IS OF BULK AT MOST 1048576: true; the input reads as it did. -/
def cspParseUptoRow : OpenClaim := { program := "ytcpeecacoblbhaa", sum := "76e40f77d6a5584131c2074de7174c2ccc7a02ca5b08a1ce00478aae46bf1feb", func := "abatis/abatislaw15.CspParse", spec := "cspParse", unfollowed := true, recurses := true, apart := false, narrowed := true }
def CspParseUptoSaid : Prop := cspParseUptoRow.holds Try.pinned (OpenSpec.upto cspParseSpec)

/-- 'abatislaw01.TextKinds', WHERE WHAT IT READS IS OF BULK AT MOST 1048576: true; the input reads as it did. -/
def textKindsUptoRow : OpenClaim := { program := "ytcpeecacoblbhaa", sum := "76e40f77d6a5584131c2074de7174c2ccc7a02ca5b08a1ce00478aae46bf1feb", func := "abatis/abatislaw01.TextKinds", spec := "textKinds", inPlace := ["internal/bytealg.IndexByteString", "internal/bytealg.IndexString"], unfollowed := true, recurses := true, named := ["internal/bytealg.MaxLen"], apart := false, narrowed := true }
def TextKindsUptoSaid : Prop := textKindsUptoRow.holds Try.pinned (OpenSpec.upto textKindsSpec)

/-- 'abatislaw15.CspRound', WHERE WHAT IT READS IS OF BULK AT MOST 1048576: true; the input reads as it did. -/
def cspRoundUptoRow : OpenClaim := { program := "ytcpeecacoblbhaa", sum := "76e40f77d6a5584131c2074de7174c2ccc7a02ca5b08a1ce00478aae46bf1feb", func := "abatis/abatislaw15.CspRound", spec := "cspRound", inPlace := ["internal/abi.NoEscape", "internal/bytealg.MakeNoZero"], unfollowed := true, recurses := true, apart := false, narrowed := true }
def CspRoundUptoSaid : Prop := cspRoundUptoRow.holds Try.pinned (OpenSpec.upto cspRoundSpec)

end Rows
end Go.Proofs.Ytcpeecacoblbhaa
