/-
  head's example comes to true.
-/
import Derived.Test.YthjhbhgfckaklabDoorPD2
namespace Go.Proofs.YthjhbhgfckaklabDoor.P
open Go.RowKit Go.Proofs.YthjhbhgfckaklabDoorW.PrintWords Go.Proofs.YthjhbhgfckaklabDoorW.PrintLast Go.Proofs.YthjhbhgfckaklabDoorW.PrintMore
set_option maxRecDepth 100000 in
theorem lives14_ev : Ev (fun k => abatislaw14_lives.f k) true := Ev.of (fun k => abatislaw14_lives.mono k) (k := 60) (by decide +kernel)
end Go.Proofs.YthjhbhgfckaklabDoor.P
