/-
  No cell of these rows narrows 'for every input' (looked for: loops, veiled, ifaces, maps, wideKeys, modest, calm, conditions, laid).
  DERIVED. THE GIVEN ROWS OF THIS SEAT. 7 by the template 'for every input the law returns true; each argument reads behind the call as it read before'; 0 by the template 'total and deterministic' (their statements: YthjhbhgfckaklaaTotals.lean).
  GIVEN WITH THE SEED: the statements are not yours to turn. If you find one false, say at which input.
  Laid BY PROGRAM, IN A SANDBOX (cutbox-rows.mjs): the forced cells as the released guide's own fill.sh prints them over the translation 7249b8a817e3287b… (all of the seat's roots in one cut). By AI agents, Wed Nov 11 2026. No macro, syntax, notation, axiom, sorry.
-/
import Derived.Test.YthjhbhgfckaklaaChecked
import GoSem.Claim
import GoSem.ClaimJoined
import GoSem.ClaimMapViews
import Derived.JoinedTies
import Derived.KernelRfl
namespace Go.Proofs.Ythjhbhgfckaklaa
/- THE CELL 'sum', in the pinned program and in every row, IS THE sha256 OF THE DUMP (.gsa) THAT YthjhbhgfckaklaaProg.lean LOADS. Nothing in Lean hashes anything: it is a label: what it is worth is what the hold of that sum in a sandbox is worth. -/
noncomputable def Try.pinned : Pinned := { name := "ythjhbhgfckaklaa", sum := "7249b8a817e3287b8f45737667e4bf71a51fdf5d3010a54736fd98f3b5a20912", checked := Try.checked }
namespace Rows
def none {H : Type} : Left H := { results := [], args := [] }

/-- 'abatislaw15.CspRound': WHATEVER THE INPUT: true; the input reads as it did. -/
def cspRoundSpec : ChangeSpec := { name := "cspRound", fn := fun _ => fun
  | [d1, d2] => { results := [.lit (.bool true)], args := [d1, d2] }
  | _ => none }
def cspRoundRow : OpenClaim := { program := "ythjhbhgfckaklaa", sum := "7249b8a817e3287b8f45737667e4bf71a51fdf5d3010a54736fd98f3b5a20912", func := "abatis/abatislaw15.CspRound", spec := "cspRound", inPlace := ["internal/abi.NoEscape", "internal/bytealg.MakeNoZero"], unfollowed := true, recurses := true, apart := false }
def CspRoundSaid : Prop := cspRoundRow.holds Try.pinned (OpenSpec.ofChange cspRoundSpec)

/-- ITS FALSE NEIGHBOUR: 'it returns false'. Refute it at one input. -/
def cspRoundWrong : ChangeSpec := { name := "cspRound", fn := fun _ => fun
  | [d1, d2] => { results := [.lit (.bool false)], args := [d1, d2] }
  | _ => none }
def CspRoundWrongFalsely : Prop := cspRoundRow.holds Try.pinned (OpenSpec.ofChange cspRoundWrong)

/-- 'abatislaw06.TableFams': WHATEVER THE INPUT: true; the input reads as it did. -/
def tableFamsSpec : ChangeSpec := { name := "tableFams", fn := fun _ => fun
  | [d1, d2, d3] => { results := [.lit (.bool true)], args := [d1, d2, d3] }
  | _ => none }
def tableFamsRow : OpenClaim := { program := "ythjhbhgfckaklaa", sum := "7249b8a817e3287b8f45737667e4bf71a51fdf5d3010a54736fd98f3b5a20912", func := "abatis/abatislaw06.TableFams", spec := "tableFams", inPlace := ["internal/bytealg.Compare", "slices.overlaps[abatis/table.Entry]"], unfollowed := true, recurses := true, apart := false }
def TableFamsSaid : Prop := tableFamsRow.holds Try.pinned (OpenSpec.ofChange tableFamsSpec)

/-- ITS FALSE NEIGHBOUR: 'it returns false'. Refute it at one input. -/
def tableFamsWrong : ChangeSpec := { name := "tableFams", fn := fun _ => fun
  | [d1, d2, d3] => { results := [.lit (.bool false)], args := [d1, d2, d3] }
  | _ => none }
def TableFamsWrongFalsely : Prop := tableFamsRow.holds Try.pinned (OpenSpec.ofChange tableFamsWrong)

/-- 'abatislaw06.TableNew': WHATEVER THE INPUT: true; the input reads as it did. -/
def tableNewSpec : ChangeSpec := { name := "tableNew", fn := fun _ => fun
  | [d] => { results := [.lit (.bool true)], args := [d] }
  | _ => none }
def tableNewRow : OpenClaim := { program := "ythjhbhgfckaklaa", sum := "7249b8a817e3287b8f45737667e4bf71a51fdf5d3010a54736fd98f3b5a20912", func := "abatis/abatislaw06.TableNew", spec := "tableNew", inPlace := ["internal/bytealg.Compare", "slices.overlaps[abatis/table.Entry]"], unfollowed := true, recurses := true, apart := false }
def TableNewSaid : Prop := tableNewRow.holds Try.pinned (OpenSpec.ofChange tableNewSpec)

/-- ITS FALSE NEIGHBOUR: 'it returns false'. Refute it at one input. -/
def tableNewWrong : ChangeSpec := { name := "tableNew", fn := fun _ => fun
  | [d] => { results := [.lit (.bool false)], args := [d] }
  | _ => none }
def TableNewWrongFalsely : Prop := tableNewRow.holds Try.pinned (OpenSpec.ofChange tableNewWrong)

/-- 'abatislaw06.TableFinds': WHATEVER THE INPUT: true; the input reads as it did. -/
def tableFindsSpec : ChangeSpec := { name := "tableFinds", fn := fun _ => fun
  | [d1, d2] => { results := [.lit (.bool true)], args := [d1, d2] }
  | _ => none }
def tableFindsRow : OpenClaim := { program := "ythjhbhgfckaklaa", sum := "7249b8a817e3287b8f45737667e4bf71a51fdf5d3010a54736fd98f3b5a20912", func := "abatis/abatislaw06.TableFinds", spec := "tableFinds", inPlace := ["internal/bytealg.Compare", "slices.overlaps[abatis/table.Entry]"], unfollowed := true, recurses := true, apart := false }
def TableFindsSaid : Prop := tableFindsRow.holds Try.pinned (OpenSpec.ofChange tableFindsSpec)

/-- ITS FALSE NEIGHBOUR: 'it returns false'. Refute it at one input. -/
def tableFindsWrong : ChangeSpec := { name := "tableFinds", fn := fun _ => fun
  | [d1, d2] => { results := [.lit (.bool false)], args := [d1, d2] }
  | _ => none }
def TableFindsWrongFalsely : Prop := tableFindsRow.holds Try.pinned (OpenSpec.ofChange tableFindsWrong)

/-- 'abatislaw06.TableSteps': WHATEVER THE INPUT: true; the input reads as it did. -/
def tableStepsSpec : ChangeSpec := { name := "tableSteps", fn := fun _ => fun
  | [d1, d2] => { results := [.lit (.bool true)], args := [d1, d2] }
  | _ => none }
def tableStepsRow : OpenClaim := { program := "ythjhbhgfckaklaa", sum := "7249b8a817e3287b8f45737667e4bf71a51fdf5d3010a54736fd98f3b5a20912", func := "abatis/abatislaw06.TableSteps", spec := "tableSteps", inPlace := ["internal/bytealg.Compare", "slices.overlaps[abatis/table.Entry]"], unfollowed := true, recurses := true, apart := false }
def TableStepsSaid : Prop := tableStepsRow.holds Try.pinned (OpenSpec.ofChange tableStepsSpec)

/-- ITS FALSE NEIGHBOUR: 'it returns false'. Refute it at one input. -/
def tableStepsWrong : ChangeSpec := { name := "tableSteps", fn := fun _ => fun
  | [d1, d2] => { results := [.lit (.bool false)], args := [d1, d2] }
  | _ => none }
def TableStepsWrongFalsely : Prop := tableStepsRow.holds Try.pinned (OpenSpec.ofChange tableStepsWrong)

/-- 'abatislaw06.TableLongest': WHATEVER THE INPUT: true; the input reads as it did. -/
def tableLongestSpec : ChangeSpec := { name := "tableLongest", fn := fun _ => fun
  | [d1, d2] => { results := [.lit (.bool true)], args := [d1, d2] }
  | _ => none }
def tableLongestRow : OpenClaim := { program := "ythjhbhgfckaklaa", sum := "7249b8a817e3287b8f45737667e4bf71a51fdf5d3010a54736fd98f3b5a20912", func := "abatis/abatislaw06.TableLongest", spec := "tableLongest", inPlace := ["internal/bytealg.Compare", "slices.overlaps[abatis/table.Entry]"], unfollowed := true, recurses := true, apart := false }
def TableLongestSaid : Prop := tableLongestRow.holds Try.pinned (OpenSpec.ofChange tableLongestSpec)

/-- ITS FALSE NEIGHBOUR: 'it returns false'. Refute it at one input. -/
def tableLongestWrong : ChangeSpec := { name := "tableLongest", fn := fun _ => fun
  | [d1, d2] => { results := [.lit (.bool false)], args := [d1, d2] }
  | _ => none }
def TableLongestWrongFalsely : Prop := tableLongestRow.holds Try.pinned (OpenSpec.ofChange tableLongestWrong)

/-- 'abatislaw06.TablePlays': WHATEVER THE INPUT: true; the input reads as it did. -/
def tablePlaysSpec : ChangeSpec := { name := "tablePlays", fn := fun _ => fun
  | [d] => { results := [.lit (.bool true)], args := [d] }
  | _ => none }
def tablePlaysRow : OpenClaim := { program := "ythjhbhgfckaklaa", sum := "7249b8a817e3287b8f45737667e4bf71a51fdf5d3010a54736fd98f3b5a20912", func := "abatis/abatislaw06.TablePlays", spec := "tablePlays", inPlace := ["internal/bytealg.Compare", "slices.overlaps[abatis/table.Entry]"], unfollowed := true, recurses := true, apart := false }
def TablePlaysSaid : Prop := tablePlaysRow.holds Try.pinned (OpenSpec.ofChange tablePlaysSpec)

/-- ITS FALSE NEIGHBOUR: 'it returns false'. Refute it at one input. -/
def tablePlaysWrong : ChangeSpec := { name := "tablePlays", fn := fun _ => fun
  | [d] => { results := [.lit (.bool false)], args := [d] }
  | _ => none }
def TablePlaysWrongFalsely : Prop := tablePlaysRow.holds Try.pinned (OpenSpec.ofChange tablePlaysWrong)

/- THE SECOND FORM. 'bulk': how many values and letters a reading holds, each counted each time it is reached (what is shared counts as often as it is met; a slice's spare places count too). A statement '..UptoSaid' is the law's where the arguments, and the package variables that the reading takes, are together of bulk at most 1048576: NARROWER than '..Said'. Prove '..Said' where nothing that the law and all that it calls make is longer than what came in: it says more and counts as full. Else prove '..UptoSaid'. A law counts once. -/
mutual
def uptoBulk {H : Type} : DataW H → Nat
  | .lit (.string bytes) => bytes.length + 1
  | .lit _ => 1
  | .nil => 1
  | .ptr d => uptoBulk d + 1
  | .slice elems spare => uptoBulkAll elems + uptoBulkAll spare + 1
  | .agg parts => uptoBulkAll parts + 1
  | .iface _ d => uptoBulk d + 1
  | .map entries => uptoBulkEntries entries + 1
  | .held _ => 1
def uptoBulkAll {H : Type} : List (DataW H) → Nat
  | [] => 0
  | d :: r => uptoBulk d + uptoBulkAll r
def uptoBulkEntries {H : Type} : List (Lit × DataW H) → Nat
  | [] => 0
  | x :: r => uptoBulkEntry x + uptoBulkEntries r
def uptoBulkEntry {H : Type} : Lit × DataW H → Nat
  | (.string bytes, d) => bytes.length + uptoBulk d + 1
  | (_, d) => uptoBulk d + 1
 end
def uptoSmall : (H : Type) → List (DataW H) → Bool := fun _ ds => decide (uptoBulkAll ds ≤ 1048576)
def OpenSpec.upto (s : _root_.Go.ChangeSpec) : _root_.Go.OpenSpec := { _root_.Go.OpenSpec.ofChange s with cond := some uptoSmall }

/-- 'abatislaw15.CspRound', WHERE WHAT IT READS IS OF BULK AT MOST 1048576: true; the input reads as it did. -/
def cspRoundUptoRow : OpenClaim := { program := "ythjhbhgfckaklaa", sum := "7249b8a817e3287b8f45737667e4bf71a51fdf5d3010a54736fd98f3b5a20912", func := "abatis/abatislaw15.CspRound", spec := "cspRound", inPlace := ["internal/abi.NoEscape", "internal/bytealg.MakeNoZero"], unfollowed := true, recurses := true, apart := false, narrowed := true }
def CspRoundUptoSaid : Prop := cspRoundUptoRow.holds Try.pinned (OpenSpec.upto cspRoundSpec)

/-- 'abatislaw06.TableFams', WHERE WHAT IT READS IS OF BULK AT MOST 1048576: true; the input reads as it did. -/
def tableFamsUptoRow : OpenClaim := { program := "ythjhbhgfckaklaa", sum := "7249b8a817e3287b8f45737667e4bf71a51fdf5d3010a54736fd98f3b5a20912", func := "abatis/abatislaw06.TableFams", spec := "tableFams", inPlace := ["internal/bytealg.Compare", "slices.overlaps[abatis/table.Entry]"], unfollowed := true, recurses := true, apart := false, narrowed := true }
def TableFamsUptoSaid : Prop := tableFamsUptoRow.holds Try.pinned (OpenSpec.upto tableFamsSpec)

/-- 'abatislaw06.TableNew', WHERE WHAT IT READS IS OF BULK AT MOST 1048576: true; the input reads as it did. -/
def tableNewUptoRow : OpenClaim := { program := "ythjhbhgfckaklaa", sum := "7249b8a817e3287b8f45737667e4bf71a51fdf5d3010a54736fd98f3b5a20912", func := "abatis/abatislaw06.TableNew", spec := "tableNew", inPlace := ["internal/bytealg.Compare", "slices.overlaps[abatis/table.Entry]"], unfollowed := true, recurses := true, apart := false, narrowed := true }
def TableNewUptoSaid : Prop := tableNewUptoRow.holds Try.pinned (OpenSpec.upto tableNewSpec)

/-- 'abatislaw06.TableFinds', WHERE WHAT IT READS IS OF BULK AT MOST 1048576: true; the input reads as it did. -/
def tableFindsUptoRow : OpenClaim := { program := "ythjhbhgfckaklaa", sum := "7249b8a817e3287b8f45737667e4bf71a51fdf5d3010a54736fd98f3b5a20912", func := "abatis/abatislaw06.TableFinds", spec := "tableFinds", inPlace := ["internal/bytealg.Compare", "slices.overlaps[abatis/table.Entry]"], unfollowed := true, recurses := true, apart := false, narrowed := true }
def TableFindsUptoSaid : Prop := tableFindsUptoRow.holds Try.pinned (OpenSpec.upto tableFindsSpec)

/-- 'abatislaw06.TableSteps', WHERE WHAT IT READS IS OF BULK AT MOST 1048576: true; the input reads as it did. -/
def tableStepsUptoRow : OpenClaim := { program := "ythjhbhgfckaklaa", sum := "7249b8a817e3287b8f45737667e4bf71a51fdf5d3010a54736fd98f3b5a20912", func := "abatis/abatislaw06.TableSteps", spec := "tableSteps", inPlace := ["internal/bytealg.Compare", "slices.overlaps[abatis/table.Entry]"], unfollowed := true, recurses := true, apart := false, narrowed := true }
def TableStepsUptoSaid : Prop := tableStepsUptoRow.holds Try.pinned (OpenSpec.upto tableStepsSpec)

/-- 'abatislaw06.TableLongest', WHERE WHAT IT READS IS OF BULK AT MOST 1048576: true; the input reads as it did. -/
def tableLongestUptoRow : OpenClaim := { program := "ythjhbhgfckaklaa", sum := "7249b8a817e3287b8f45737667e4bf71a51fdf5d3010a54736fd98f3b5a20912", func := "abatis/abatislaw06.TableLongest", spec := "tableLongest", inPlace := ["internal/bytealg.Compare", "slices.overlaps[abatis/table.Entry]"], unfollowed := true, recurses := true, apart := false, narrowed := true }
def TableLongestUptoSaid : Prop := tableLongestUptoRow.holds Try.pinned (OpenSpec.upto tableLongestSpec)

/-- 'abatislaw06.TablePlays', WHERE WHAT IT READS IS OF BULK AT MOST 1048576: true; the input reads as it did. -/
def tablePlaysUptoRow : OpenClaim := { program := "ythjhbhgfckaklaa", sum := "7249b8a817e3287b8f45737667e4bf71a51fdf5d3010a54736fd98f3b5a20912", func := "abatis/abatislaw06.TablePlays", spec := "tablePlays", inPlace := ["internal/bytealg.Compare", "slices.overlaps[abatis/table.Entry]"], unfollowed := true, recurses := true, apart := false, narrowed := true }
def TablePlaysUptoSaid : Prop := tablePlaysUptoRow.holds Try.pinned (OpenSpec.upto tablePlaysSpec)

end Rows
end Go.Proofs.Ythjhbhgfckaklaa
