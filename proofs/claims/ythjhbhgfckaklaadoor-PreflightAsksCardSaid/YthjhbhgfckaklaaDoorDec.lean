/-
  The contract of text.Decimal, out of the shelf's for strconv.Itoa; the fact on the table of powers comes with the one on internal/bytealg.MaxLen.
-/
import Derived.Test.YthjhbhgfckaklaaDoorStrs
import Derived.Test.YthjhbhgfckaklaaDoorShelfK
import Derived.Lib.AppendIntMem
namespace Go.Proofs.YthjhbhgfckaklaaDoor.P
open Go.RowKit Go.Proofs.YthjhbhgfckaklaaDoorW.PrintWords Go.Proofs.YthjhbhgfckaklaaDoorW.PrintLast Go.Proofs.YthjhbhgfckaklaaDoorW.PrintMore
set_option linter.unusedVariables false
set_option linter.unusedSimpArgs false
def text_Decimal.f (a0 : Int) : Option ByteArray := if -9223372036854775808 ≤ a0 ∧ a0 ≤ 9223372036854775807 then some ⟨(Lib.itoa a0).toArray⟩ else none
set_option maxRecDepth 100000 in
theorem text_Decimal.calls (a0 : Int) (r : ByteArray) (w : World) (hmx : MaxIs w) (h : text_Decimal.f a0 = some r) :
  Calls Tryd.prog 84 #[.int .i64 a0] w fun e w' => e = .returned (.string r) ∧ Below w.heap.size w w' := by
 unfold text_Decimal.f at h
 split at h
 case isFalse => exact absurd h (by simp)
 rename_i hs
 have H := Aside0.mk (Option.some.inj h)
 have HT := Aside0.mk hmx.2
 clear h hmx
 go_enter Tryd.func84, Tryd.ntmps84
 go_wp2_with (go_at_call 106; refine (Tryd.strconv_Itoa a0 hs.1 hs.2 _ HT.out).mono ?_; rintro e w' ⟨rfl, ⟨k, os, rfl⟩⟩)
 go_ret
 exact ⟨by rw [← H.out]; rfl, Lib.below_grow _ w (Nat.le_refl _) _ _⟩
end Go.Proofs.YthjhbhgfckaklaaDoor.P
