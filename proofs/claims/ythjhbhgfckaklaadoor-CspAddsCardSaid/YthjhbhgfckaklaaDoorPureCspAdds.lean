/-
  The pure statement of CspAdds.
-/
import Derived.Test.YthjhbhgfckaklaaDoorPlO
namespace Go.Proofs.YthjhbhgfckaklaaDoor.Pure
open Go.Proofs.YthjhbhgfckaklaaDoor.P
theorem CspAdds : abatislaw15_CspAdds.Pure := fun l s g _ _ => (CspAdds_ev l s g).rounds
end Go.Proofs.YthjhbhgfckaklaaDoor.Pure
