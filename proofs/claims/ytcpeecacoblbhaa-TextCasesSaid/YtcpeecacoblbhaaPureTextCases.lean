/-
  For every two texts the statement TextCases comes to true: no condition beyond what the row itself lets in.
-/
import Derived.Test.YtcpeecacoblbhaaPlB
namespace Go.Proofs.Ytcpeecacoblbhaa.Pure
open Go.Proofs.Ytcpeecacoblbhaa.P Go.Proofs.YtcpeecacoblbhaaW.PrintWords
theorem TextCases : abatislaw01_TextCases.Pure := fun a b _ _ => (Go.Proofs.Ytcpeecacoblbhaa.P.TextCases_ev a b).rounds
end Go.Proofs.Ytcpeecacoblbhaa.Pure
