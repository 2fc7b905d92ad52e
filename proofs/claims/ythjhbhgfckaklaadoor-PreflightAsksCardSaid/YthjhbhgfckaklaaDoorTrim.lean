/-
  The contract of text.Trim, out of the shelf's for strings.Trim.
-/
import Derived.Test.YthjhbhgfckaklaaDoorM4
import Derived.Test.YthjhbhgfckaklaaDoorShelf
namespace Go.Proofs.YthjhbhgfckaklaaDoor.P
open Go.RowKit Go.Proofs.YthjhbhgfckaklaaDoorW.PrintWords Go.Proofs.YthjhbhgfckaklaaDoorW.PrintLast Go.Proofs.YthjhbhgfckaklaaDoorW.PrintMore
set_option linter.unusedVariables false
set_option linter.unusedSimpArgs false
end Go.Proofs.YthjhbhgfckaklaaDoor.P
