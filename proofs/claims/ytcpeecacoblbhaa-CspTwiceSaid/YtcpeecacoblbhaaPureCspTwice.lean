/-
  For every two texts the statement CspTwice comes to true: no condition beyond what the row itself lets in.
-/
import Derived.Test.YtcpeecacoblbhaaPlJ
namespace Go.Proofs.Ytcpeecacoblbhaa.Pure
open Go.Proofs.Ytcpeecacoblbhaa.P Go.Proofs.YtcpeecacoblbhaaW.PrintWords
theorem CspTwice : abatislaw15_CspTwice.Pure := fun a b _ _ => (Go.Proofs.Ytcpeecacoblbhaa.P.CspTwice_ev a b).rounds
end Go.Proofs.Ytcpeecacoblbhaa.Pure
