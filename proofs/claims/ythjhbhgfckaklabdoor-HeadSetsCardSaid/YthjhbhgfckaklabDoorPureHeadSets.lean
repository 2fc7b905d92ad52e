/-
  The pure statement of HeadSets.
-/
import Derived.Test.YthjhbhgfckaklabDoorPlX
namespace Go.Proofs.YthjhbhgfckaklabDoor.Pure
open Go.Proofs.YthjhbhgfckaklabDoor.P
theorem HeadSets : abatislaw14_HeadSets.Pure := fun l a1 a2 _ _ _ => (HeadSets_ev l a1 a2).rounds
end Go.Proofs.YthjhbhgfckaklabDoor.Pure
