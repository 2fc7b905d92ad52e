/-
  Law SpaceMaps.
-/
import Derived.Test.YtjilnigmbnmlfaaGreatDoorSpaZG
import Derived.Test.YtjilnigmbnmlfaaGreatDoorSpaZL
namespace Go.Proofs.YtjilnigmbnmlfaaGreatDoor.P
open Go.RowKit Go.Proofs.YtjilnigmbnmlfaaGreatDoorW.PrintWords Go.Proofs.YtjilnigmbnmlfaaGreatDoorW.PrintLast Go.Proofs.YtjilnigmbnmlfaaGreatDoorW.PrintMore
set_option linter.unusedVariables false
set_option linter.unusedSimpArgs false
theorem law_Maps (A : Option Addr) (n cap : Nat) (L : List En) (p : Pf) (hp : p.a.ok) (s : Int) (a : Ad) (ha : a.ok) (w : World) (hmx : MaxIs w) (hrd : RdT w A n cap L) :
    Calls Tryz.prog 4 #[.slice A n cap, .agg (eP p), .int .i64 s, .agg (eA a)] w fun r w' => r = .returned (.bool true) ∧ Below w.heap.size w w' := by
  by_cases h12 : 12 < n
  · exact law_Maps_gt A n cap L p hp s a ha w hmx hrd h12
  · exact law_Maps_le A n cap L p hp s a ha w hmx hrd h12
end Go.Proofs.YtjilnigmbnmlfaaGreatDoor.P
