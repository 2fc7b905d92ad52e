/-
  For every text and every number the statement TextNumbers comes to true: no condition beyond what the row itself lets in.
-/
import Derived.Test.YtcpeecacoblbhaaDoorPlG
namespace Go.Proofs.YtcpeecacoblbhaaDoor.Pure
open Go.Proofs.YtcpeecacoblbhaaDoor.P Go.Proofs.YtcpeecacoblbhaaDoorW.PrintWords
theorem TextNumbers : abatislaw01_TextNumbers.Pure := fun a0 a1 _ h => (TextNumbers_ev a0 a1 h).rounds
end Go.Proofs.YtcpeecacoblbhaaDoor.Pure
