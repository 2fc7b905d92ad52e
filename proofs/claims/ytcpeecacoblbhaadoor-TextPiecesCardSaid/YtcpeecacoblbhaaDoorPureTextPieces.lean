/-
  For every text and every byte the statement TextPieces comes to true: no condition beyond what the row itself lets in.
-/
import Derived.Test.YtcpeecacoblbhaaDoorPlH
namespace Go.Proofs.YtcpeecacoblbhaaDoor.Pure
open Go.Proofs.YtcpeecacoblbhaaDoor.P Go.Proofs.YtcpeecacoblbhaaDoorW.PrintWords
theorem TextPieces : abatislaw01_TextPieces.Pure := fun a0 a1 _ h => (TextPieces_ev a0 a1 h).rounds
end Go.Proofs.YtcpeecacoblbhaaDoor.Pure
