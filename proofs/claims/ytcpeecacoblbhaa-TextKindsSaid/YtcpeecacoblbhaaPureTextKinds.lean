/-
  For every text the statement TextKinds comes to true: no condition beyond what the row itself lets in.
-/
import Derived.Test.YtcpeecacoblbhaaPlE
namespace Go.Proofs.Ytcpeecacoblbhaa.Pure
open Go.Proofs.Ytcpeecacoblbhaa.P Go.Proofs.YtcpeecacoblbhaaW.PrintWords
theorem TextKinds : abatislaw01_TextKinds.Pure := fun a _ => (Go.Proofs.Ytcpeecacoblbhaa.P.TextKinds_ev a).rounds
end Go.Proofs.Ytcpeecacoblbhaa.Pure
