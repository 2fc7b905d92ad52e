/-
  A prefix of no bits has all addresses of its family (the walk).
-/
import Derived.Test.YthjhbhgfckaklaaTabO
namespace Go.Proofs.Ythjhbhgfckaklaa.P
open Go.RowKit Go.Proofs.YthjhbhgfckaklaaW.PrintWords Go.Proofs.YthjhbhgfckaklaaW.PrintLast Go.Proofs.YthjhbhgfckaklaaW.PrintMore
set_option linter.unusedVariables false
set_option linter.unusedSimpArgs false
section
variable {ops : Array Oper} {rest : List Oper} {o : Oper} {a : Act} {w : World} {Q : Exit → Act → World → Prop}
end
theorem val_cell {w : World} {g : Nat} {e : En} {t : TypeId} (he : e.p.a.ok) (h : w.heap[g]? = some (.cells (eE e) t (0, 0))) : w.cell? ⟨g, 18, none⟩ = some (.int .i64 e.v) := by
  have := part_v he (range_row (xs := lE e) h)
  rw [Nat.zero_add] at this
  exact this
/-! ### the plain law -/
end Go.Proofs.Ythjhbhgfckaklaa.P
