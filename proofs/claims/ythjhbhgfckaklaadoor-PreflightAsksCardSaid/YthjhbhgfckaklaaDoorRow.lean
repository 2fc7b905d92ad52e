/-
  A whole struct stored into the block that holds one: one step, whatever its cells.
-/
import Derived.Laws.Tables
import Derived.Laws.Rows
import Derived.Deep.WholeRow
import Derived.Test.YthjhbhgfckaklaaDoorM2
namespace Go.Proofs.YthjhbhgfckaklaaDoor.P
open Go.RowKit Go.Proofs.YthjhbhgfckaklaaDoorW.PrintWords Go.Proofs.YthjhbhgfckaklaaDoorW.PrintLast Go.Proofs.YthjhbhgfckaklaaDoorW.PrintMore
set_option linter.unusedVariables false
theorem run_store_row {P : Program} {oi : Oper} {a : Act} {w : World} {g : Nat} {t ty : TypeId} {old cells : Array Value} {x y : Operand} (ho : oi.op = .store ty x y) (hx : a.eval x = .pointer (some ⟨g, 0, none⟩)) (hy : a.eval y = .agg cells)
  (hg : w.heap[g]? = some (.cells old t (0, 0))) (hi : (P.info? ty).map (·.size) = some cells.size) (hold : old.size = cells.size) (h1 : cells.all (·.oneCell') = true) : (execOp a.eval oi).run P w = .ok .skip (w.setRow g cells) := by
 unfold execOp
 simp only [ho, hx, hy, Instr.storeAt, Instr.sureAddr, Sem.run_bind, Sem.run_pure, Result.andThen_ok, run_storeVar_row w g t ty old cells hg hi hold h1]
theorem row_new {w : World} {g : Nat} {t : TypeId} {old cells : Array Value} (hg : w.heap[g]? = some (.cells old t (0, 0))) : (w.setRow g cells).heap[g]? = some (.cells cells t (0, 0)) := setRow_heap w g old cells t (0, 0) hg
theorem row_far {w : World} {g k : Nat} {cells : Array Value} (h : k ≠ g) : (w.setRow g cells).heap[k]? = w.heap[k]? := by
 unfold World.setRow
 simp only [Array.getElem?_modify]
 rw [if_neg (fun e => h e.symm)]
theorem row_size {w : World} {g : Nat} {cells : Array Value} : (w.setRow g cells).heap.size = w.heap.size := by unfold World.setRow; simp
theorem below_row {B : Nat} {a w : World} (h : Below B a w) {g : Nat} (hg : B ≤ g) (cells : Array Value) : Below B a (w.setRow g cells) :=
 h.trans ⟨rfl, rfl, rfl, by rw [row_size]; exact Nat.le_refl _, fun k hk => row_far (by omega)⟩
end Go.Proofs.YthjhbhgfckaklaaDoor.P
