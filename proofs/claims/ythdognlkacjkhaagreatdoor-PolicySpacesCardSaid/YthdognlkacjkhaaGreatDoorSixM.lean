/-
  abatisref03.Mapped, Run over [8]uint16: an array that is indexed by a variable.
-/
import Derived.Test.YthdognlkacjkhaaGreatDoorPb
import Derived.Test.YthdognlkacjkhaaGreatDoorBase
import Derived.OwnWalk
import Derived.RangeFuncRecord
namespace Go.Proofs.YthdognlkacjkhaaGreatDoor.P
open Go.RowKit Go.Proofs.YthdognlkacjkhaaGreatDoorW.PrintWords Go.Proofs.YthdognlkacjkhaaGreatDoorW.PrintLast Go.Proofs.YthdognlkacjkhaaGreatDoorW.PrintMore
set_option linter.unusedVariables false
set_option linter.unusedSimpArgs false
/-- The field at an index. -/
def at8 (a b c d e f g h : Int) : Nat → Int
  | 0 => a | 1 => b | 2 => c | 3 => d | 4 => e | 5 => f | 6 => g | 7 => h | _ => 0
theorem cell8 {w : World} {k : Nat} {t : TypeId} {a b c d e f g h : Int} (hw : w.heap[k]? = some (.cells #[.int .u16 a, .int .u16 b, .int .u16 c, .int .u16 d, .int .u16 e, .int .u16 f, .int .u16 g, .int .u16 h] t (0, 0))) (i : Nat) (hi : i < 8) :
    w.cell? { block := k, off := i } = some (.int .u16 (at8 a b c d e f g h i)) := by
  match i, hi with
  | 0, _ => simp [World.cell?, hw, at8]
  | 1, _ => simp [World.cell?, hw, at8]
  | 2, _ => simp [World.cell?, hw, at8]
  | 3, _ => simp [World.cell?, hw, at8]
  | 4, _ => simp [World.cell?, hw, at8]
  | 5, _ => simp [World.cell?, hw, at8]
  | 6, _ => simp [World.cell?, hw, at8]
  | 7, _ => simp [World.cell?, hw, at8]
theorem measure8 (i : Nat) (h : i < 8) : 8 - (intOf (.int .i64 ((i : Int) + 1))).toNat < 8 - (intOf (.int .i64 (i : Int))).toNat := by
  show 8 - ((i : Int) + 1).toNat < 8 - ((i : Nat) : Int).toNat
  omega
end Go.Proofs.YthdognlkacjkhaaGreatDoor.P
