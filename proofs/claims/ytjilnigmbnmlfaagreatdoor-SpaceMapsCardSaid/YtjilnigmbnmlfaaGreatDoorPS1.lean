-- PRINTED by pr.py (a driver round the kit's print program): not trusted, Lean checks it.
import Derived.Test.YtjilnigmbnmlfaaGreatDoorPb
import Derived.Test.YtjilnigmbnmlfaaGreatDoorM14
namespace Go.Proofs.YtjilnigmbnmlfaaGreatDoor.P
open Go.RowKit Go.Proofs.YtjilnigmbnmlfaaGreatDoorW.PrintWords Go.Proofs.YtjilnigmbnmlfaaGreatDoorW.PrintLast Go.Proofs.YtjilnigmbnmlfaaGreatDoorW.PrintMore
attribute [local go_sem] max2_int min2_int max_two min_two max_three min_three max_four min_four   -- for this text's walks alone
set_option linter.unusedVariables false
set_option linter.unusedSimpArgs false

/-! ### r02_Strict: function 61 -/

/-! ### r03_hex: function 92 -/

/-! ### r03_Groups: function 84 -/

/-! ### r03_gap: function 83 -/

end Go.Proofs.YtjilnigmbnmlfaaGreatDoor.P
