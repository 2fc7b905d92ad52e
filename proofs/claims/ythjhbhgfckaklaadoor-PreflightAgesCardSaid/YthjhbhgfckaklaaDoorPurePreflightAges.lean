/-
  The pure statement of PreflightAges.
-/
import Derived.Test.YthjhbhgfckaklaaDoorPrH
namespace Go.Proofs.YthjhbhgfckaklaaDoor.Pure
open Go.Proofs.YthjhbhgfckaklaaDoor.P
theorem PreflightAges : abatislaw17_PreflightAges.Pure := fun a0 a1 h0 _ => (PreflightAges_ev a0 a1 h0).rounds
end Go.Proofs.YthjhbhgfckaklaaDoor.Pure
