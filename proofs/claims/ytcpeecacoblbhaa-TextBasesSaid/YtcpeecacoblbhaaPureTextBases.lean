/-
  For every number the statement TextBases comes to true: no condition beyond what the row itself lets in.
-/
import Derived.Test.YtcpeecacoblbhaaPlC
namespace Go.Proofs.Ytcpeecacoblbhaa.Pure
open Go.Proofs.Ytcpeecacoblbhaa.P Go.Proofs.YtcpeecacoblbhaaW.PrintWords
theorem TextBases : abatislaw01_TextBases.Pure := fun a ha => (Go.Proofs.Ytcpeecacoblbhaa.P.TextBases_ev a ha).rounds
end Go.Proofs.Ytcpeecacoblbhaa.Pure
