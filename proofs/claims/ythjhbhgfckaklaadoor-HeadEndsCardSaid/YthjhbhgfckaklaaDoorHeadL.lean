/-
  head's example comes to true.
-/
import Derived.Test.YthjhbhgfckaklaaDoorPD2
namespace Go.Proofs.YthjhbhgfckaklaaDoor.P
open Go.RowKit Go.Proofs.YthjhbhgfckaklaaDoorW.PrintWords Go.Proofs.YthjhbhgfckaklaaDoorW.PrintLast Go.Proofs.YthjhbhgfckaklaaDoorW.PrintMore
set_option maxRecDepth 100000 in
theorem lives14_ev : Ev (fun k => abatislaw14_lives.f k) true := Ev.of (fun k => abatislaw14_lives.mono k) (k := 60) (by decide +kernel)
end Go.Proofs.YthjhbhgfckaklaaDoor.P
