/-
  A deed, of the program and of the document.
-/
import Derived.Test.YthjhbhgfckaklaaTabI
import Derived.Test.YthjhbhgfckaklaaTabK
namespace Go.Proofs.Ythjhbhgfckaklaa.P
open Go.RowKit Go.Proofs.YthjhbhgfckaklaaW.PrintWords Go.Proofs.YthjhbhgfckaklaaW.PrintLast Go.Proofs.YthjhbhgfckaklaaW.PrintMore
set_option linter.unusedVariables false
set_option linter.unusedSimpArgs false
/-- A deed, as the statement tells it. -/
structure De where
  kind : Int
  p : Pf
  v : Int
  raw : Bool
def lD (d : De) : List Value := .int .i64 d.kind :: (lP d.p ++ [.int .i64 d.v, .bool d.raw])
end Go.Proofs.Ythjhbhgfckaklaa.P
