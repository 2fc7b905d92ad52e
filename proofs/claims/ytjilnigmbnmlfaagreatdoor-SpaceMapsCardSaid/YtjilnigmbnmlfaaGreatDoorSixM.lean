/-
  abatisref03.Mapped, Run over [8]uint16: an array that is indexed by a variable.
-/
import Derived.Test.YtjilnigmbnmlfaaGreatDoorPb
import Derived.Test.YtjilnigmbnmlfaaGreatDoorBase
import Derived.OwnWalk
import Derived.RangeFuncRecord
namespace Go.Proofs.YtjilnigmbnmlfaaGreatDoor.P
open Go.RowKit Go.Proofs.YtjilnigmbnmlfaaGreatDoorW.PrintWords Go.Proofs.YtjilnigmbnmlfaaGreatDoorW.PrintLast Go.Proofs.YtjilnigmbnmlfaaGreatDoorW.PrintMore
set_option linter.unusedVariables false
set_option linter.unusedSimpArgs false
end Go.Proofs.YtjilnigmbnmlfaaGreatDoor.P
