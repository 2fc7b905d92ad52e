/-
  A prefix of no bits has all addresses of its family (the walk).
-/
import Derived.Test.YthjhbhgfckaklaaTabO
namespace Go.Proofs.Ythjhbhgfckaklaa.P
open Go.RowKit Go.Proofs.YthjhbhgfckaklaaW.PrintWords Go.Proofs.YthjhbhgfckaklaaW.PrintLast Go.Proofs.YthjhbhgfckaklaaW.PrintMore
set_option linter.unusedVariables false
set_option linter.unusedSimpArgs false
section
variable {ops : Array Oper} {rest : List Oper} {o : Oper} {a : Act} {w : World} {Q : Exit → Act → World → Prop}
end
/-! ### the plain law -/
end Go.Proofs.Ythjhbhgfckaklaa.P
