/-
  The pure statement of HeadLists.
-/
import Derived.Test.YthjhbhgfckaklabDoorPlP
namespace Go.Proofs.YthjhbhgfckaklabDoor.Pure
open Go.Proofs.YthjhbhgfckaklabDoor.P
theorem HeadLists : abatislaw14_HeadLists.Pure := fun l _ => (HeadLists_ev l).rounds
end Go.Proofs.YthjhbhgfckaklabDoor.Pure
