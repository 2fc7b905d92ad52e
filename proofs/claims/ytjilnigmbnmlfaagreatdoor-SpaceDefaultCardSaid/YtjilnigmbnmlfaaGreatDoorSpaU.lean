/-
  Masks that may be; what a prefix adds: plain.
-/
import Derived.Test.YtjilnigmbnmlfaaGreatDoorSpaT
namespace Go.Proofs.YtjilnigmbnmlfaaGreatDoor.P
open Go.RowKit Go.Proofs.YtjilnigmbnmlfaaGreatDoorW.PrintWords Go.Proofs.YtjilnigmbnmlfaaGreatDoorW.PrintLast Go.Proofs.YtjilnigmbnmlfaaGreatDoorW.PrintMore
set_option linter.unusedVariables false
set_option linter.unusedSimpArgs false
/-! ### a prefix that is added -/
end Go.Proofs.YtjilnigmbnmlfaaGreatDoor.P
