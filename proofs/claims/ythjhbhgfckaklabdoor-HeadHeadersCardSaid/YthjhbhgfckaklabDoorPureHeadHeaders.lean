/-
  The pure statement of HeadHeaders.
-/
import Derived.Test.YthjhbhgfckaklabDoorPlZ
namespace Go.Proofs.YthjhbhgfckaklabDoor.Pure
open Go.Proofs.YthjhbhgfckaklabDoor.P
theorem HeadHeaders : abatislaw14_HeadHeaders.Pure := fun l a1 a2 a3 _ _ _ h3 => (HeadHeaders_ev l a1 a2 a3 h3).rounds
end Go.Proofs.YthjhbhgfckaklabDoor.Pure
