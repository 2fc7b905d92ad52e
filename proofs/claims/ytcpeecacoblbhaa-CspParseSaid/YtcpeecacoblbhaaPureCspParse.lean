/-
  For every text and every name the statement CspParse comes to true: no condition beyond what the row itself lets in.
-/
import Derived.Test.YtcpeecacoblbhaaPlM
namespace Go.Proofs.Ytcpeecacoblbhaa.Pure
open Go.Proofs.Ytcpeecacoblbhaa.P Go.Proofs.YtcpeecacoblbhaaW.PrintWords
theorem CspParse : abatislaw15_CspParse.Pure := fun a b _ h => (Go.Proofs.Ytcpeecacoblbhaa.P.CspParse_ev a b h).rounds
end Go.Proofs.Ytcpeecacoblbhaa.Pure
