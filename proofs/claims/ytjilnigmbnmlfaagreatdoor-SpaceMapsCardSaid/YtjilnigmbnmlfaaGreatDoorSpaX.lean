/-
  The document's parse of an address, of a prefix; the texts of its first table.
-/
import Derived.Test.YtjilnigmbnmlfaaGreatDoorSpaV
import Derived.Test.YtjilnigmbnmlfaaGreatDoorSixQ
import Derived.Test.YtjilnigmbnmlfaaGreatDoorM14
namespace Go.Proofs.YtjilnigmbnmlfaaGreatDoor.P
open Go.RowKit Go.Proofs.YtjilnigmbnmlfaaGreatDoorW.PrintWords Go.Proofs.YtjilnigmbnmlfaaGreatDoorW.PrintLast Go.Proofs.YtjilnigmbnmlfaaGreatDoorW.PrintMore
set_option linter.unusedVariables false
set_option linter.unusedSimpArgs false
/-- Where the last slash stands, ahead of a place. -/
def lastB (s : ByteArray) : Nat → Int
  | 0 => -1
  | i + 1 => if bt s (i : Int) = 47 then (i : Int) else lastB s i
/-- What abatisref05.Parse hands back at a text: this prefix. -/
structure PfOkR (s : ByteArray) (p : Pf) : Prop where
  ok : p.a.ok
  may : mayQ p = true
  run : ∀ w : World, MaxIs w → Calls Tryz.prog 21 #[.string s] w fun e w' => e = .returned (.tuple #[.agg (eP p), .int .i64 0]) ∧ Below w.heap.size w w'
end Go.Proofs.YtjilnigmbnmlfaaGreatDoor.P
