/-
  Masks that may be; what a prefix adds: plain.
-/
import Derived.Test.YthdognlkacjkhaaGreatDoorSpaT
namespace Go.Proofs.YthdognlkacjkhaaGreatDoor.P
open Go.RowKit Go.Proofs.YthdognlkacjkhaaGreatDoorW.PrintWords Go.Proofs.YthdognlkacjkhaaGreatDoorW.PrintLast Go.Proofs.YthdognlkacjkhaaGreatDoorW.PrintMore
set_option linter.unusedVariables false
set_option linter.unusedSimpArgs false
/-! ### a prefix that is added -/
end Go.Proofs.YthdognlkacjkhaaGreatDoor.P
