/-
  abatisref03.Parse: the groups of a text, into [8]uint16.
-/
import Derived.Test.YtjilnigmbnmlfaaGreatDoorSixM
import Derived.Test.YtjilnigmbnmlfaaGreatDoorPS1
import Derived.Laws.ResultCell
import Derived.Laws.Rows
import Derived.IntWalk
namespace Go.Proofs.YtjilnigmbnmlfaaGreatDoor.P
open Go.RowKit Go.Proofs.YtjilnigmbnmlfaaGreatDoorW.PrintWords Go.Proofs.YtjilnigmbnmlfaaGreatDoorW.PrintLast Go.Proofs.YtjilnigmbnmlfaaGreatDoorW.PrintMore
set_option linter.unusedVariables false
set_option linter.unusedSimpArgs false
def zero8 : Nat → Int := fun _ => 0
def c8 (g : Nat → Int) : Array Value := #[.int .u16 (g 0), .int .u16 (g 1), .int .u16 (g 2), .int .u16 (g 3), .int .u16 (g 4), .int .u16 (g 5), .int .u16 (g 6), .int .u16 (g 7)]
theorem cell_heap {w w1 : World} {p : Addr} (h : w1.heap[p.block]? = w.heap[p.block]?) : w1.cell? p = w.cell? p := by unfold World.cell?; rw [h]
/-- Two arrays at the call's own blocks: all zero, and one that is filled. -/
def Two (w W : World) (g : Nat → Int) : Prop := W.heap[w.heap.size]? = some (.cells (c8 zero8) 69 (0, 0)) ∧ W.heap[w.heap.size + 1]? = some (.cells (c8 g) 69 (0, 0)) ∧ Below w.heap.size w W ∧ w.heap.size + 2 ≤ W.heap.size
end Go.Proofs.YtjilnigmbnmlfaaGreatDoor.P
