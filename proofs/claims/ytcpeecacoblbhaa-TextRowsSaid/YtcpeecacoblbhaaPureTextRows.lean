/-
  For every text and every list of bools the statement TextRows comes to true: no condition beyond what the row itself lets in.
-/
import Derived.Test.YtcpeecacoblbhaaPlD
namespace Go.Proofs.Ytcpeecacoblbhaa.Pure
open Go.Proofs.Ytcpeecacoblbhaa.P Go.Proofs.YtcpeecacoblbhaaW.PrintWords
theorem TextRows : abatislaw01_TextRows.Pure := fun a g _ _ => (Go.Proofs.Ytcpeecacoblbhaa.P.TextRows_ev a g).rounds
end Go.Proofs.Ytcpeecacoblbhaa.Pure
