/-
  For every two texts the statement TextSigns comes to true: no condition beyond what the row itself lets in.
-/
import Derived.Test.YtcpeecacoblbhaaPlA
namespace Go.Proofs.Ytcpeecacoblbhaa.Pure
open Go.Proofs.Ytcpeecacoblbhaa.P Go.Proofs.YtcpeecacoblbhaaW.PrintWords
theorem TextSigns : abatislaw01_TextSigns.Pure := fun a b _ _ => (Go.Proofs.Ytcpeecacoblbhaa.P.TextSigns_ev a b).rounds
end Go.Proofs.Ytcpeecacoblbhaa.Pure
