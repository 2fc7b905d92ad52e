/-
  An address's entry is the document's (the walk).
-/
import Derived.Test.YthjhbhgfckaklaaTabQ
import Derived.Test.YthjhbhgfckaklaaTabP
namespace Go.Proofs.Ythjhbhgfckaklaa.P
open Go.RowKit Go.Proofs.YthjhbhgfckaklaaW.PrintWords Go.Proofs.YthjhbhgfckaklaaW.PrintLast Go.Proofs.YthjhbhgfckaklaaW.PrintMore
set_option linter.unusedVariables false
set_option linter.unusedSimpArgs false
section
variable {P : Program} {ops : Array Oper} {rest : List Oper} {o : Oper} {a : Act} {w : World} {Q : Exit → Act → World → Prop}
end
theorem infoAd_len {a : Ad} (h : a.ok) : (Try.prog.info? 34).map (·.size) = some (lA a).length := by rw [lA_len h]; exact infoA
end Go.Proofs.Ythjhbhgfckaklaa.P
