/-
  The pure statement of CspPolicies.
-/
import Derived.Test.YthjhbhgfckaklaaDoorPlO
namespace Go.Proofs.YthjhbhgfckaklaaDoor.Pure
open Go.Proofs.YthjhbhgfckaklaaDoor.P
theorem CspPolicies : abatislaw15_CspPolicies.Pure := fun l _ => (CspPolicies_ev l).rounds
end Go.Proofs.YthjhbhgfckaklaaDoor.Pure
