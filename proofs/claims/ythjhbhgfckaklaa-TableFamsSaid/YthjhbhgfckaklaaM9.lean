/-
  Texts of the proof, put together.
-/
import Derived.Test.YthjhbhgfckaklaaM8
import Derived.Laws.AppendOwnNone
section
namespace Go.Proofs.Ythjhbhgfckaklaa.P
open Go.RowKit Go.Proofs.YthjhbhgfckaklaaW.PrintWords Go.Proofs.YthjhbhgfckaklaaW.PrintLast Go.Proofs.YthjhbhgfckaklaaW.PrintMore
set_option linter.unusedVariables false
set_option linter.unusedSimpArgs false


def longer : Option En → En → Bool
  | none, _ => true
  | some b, e => decide (b.p.n < e.p.n)
end Go.Proofs.Ythjhbhgfckaklaa.P
end
