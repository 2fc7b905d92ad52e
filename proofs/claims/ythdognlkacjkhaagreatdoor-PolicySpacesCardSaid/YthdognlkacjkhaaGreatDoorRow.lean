/-
  A whole struct stored into the block that holds one: one step, whatever its cells.
-/
import Derived.Laws.Tables
import Derived.Laws.Rows
import Derived.Deep.WholeRow
import Derived.Test.YthdognlkacjkhaaGreatDoorPb
namespace Go.Proofs.YthdognlkacjkhaaGreatDoor.P
open Go.RowKit Go.Proofs.YthdognlkacjkhaaGreatDoorW.PrintWords Go.Proofs.YthdognlkacjkhaaGreatDoorW.PrintLast Go.Proofs.YthdognlkacjkhaaGreatDoorW.PrintMore
set_option linter.unusedVariables false
theorem row_new {w : World} {g : Nat} {t : TypeId} {old cells : Array Value} (hg : w.heap[g]? = some (.cells old t (0, 0))) : (w.setRow g cells).heap[g]? = some (.cells cells t (0, 0)) := setRow_heap w g old cells t (0, 0) hg
theorem row_far {w : World} {g k : Nat} {cells : Array Value} (h : k ≠ g) : (w.setRow g cells).heap[k]? = w.heap[k]? := by
  unfold World.setRow
  simp only [Array.getElem?_modify]
  rw [if_neg (fun e => h e.symm)]
theorem row_size {w : World} {g : Nat} {cells : Array Value} : (w.setRow g cells).heap.size = w.heap.size := by unfold World.setRow; simp
theorem below_row {B : Nat} {a w : World} (h : Below B a w) {g : Nat} (hg : B ≤ g) (cells : Array Value) : Below B a (w.setRow g cells) :=
  h.trans ⟨rfl, rfl, rfl, by rw [row_size]; exact Nat.le_refl _, fun k hk => row_far (by omega)⟩
end Go.Proofs.YthdognlkacjkhaaGreatDoor.P
