/-
  The pure statement of HeadEnds.
-/
import Derived.Test.YthjhbhgfckaklaaDoorPlV
namespace Go.Proofs.YthjhbhgfckaklaaDoor.Pure
open Go.Proofs.YthjhbhgfckaklaaDoor.P
theorem HeadEnds : abatislaw14_HeadEnds.Pure := fun l a1 a2 a3 hl h1 h2 h3 => (HeadEnds_ev l a1 a2 a3 hl.2 h1 h2 h3).rounds
end Go.Proofs.YthjhbhgfckaklaaDoor.Pure
