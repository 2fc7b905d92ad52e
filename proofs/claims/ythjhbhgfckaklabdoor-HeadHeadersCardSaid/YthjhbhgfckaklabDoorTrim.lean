/-
  The contract of text.Trim, out of the shelf's for strings.Trim.
-/
import Derived.Test.YthjhbhgfckaklabDoorBase
import Derived.Test.YthjhbhgfckaklabDoorShelf
namespace Go.Proofs.YthjhbhgfckaklabDoor.P
open Go.RowKit Go.Proofs.YthjhbhgfckaklabDoorW.PrintWords Go.Proofs.YthjhbhgfckaklabDoorW.PrintLast Go.Proofs.YthjhbhgfckaklabDoorW.PrintMore
set_option linter.unusedVariables false
set_option linter.unusedSimpArgs false

-- EXT abatis/text.Trim {"rounds": 0, "making": 1}
def text_Trim.f (a0 : ByteArray) : Option ByteArray := if a0.size ≤ 9223372036854775807 then some ⟨(Lib.trimS a0.data.toList [32, 9]).toArray⟩ else none
set_option maxRecDepth 100000 in
theorem text_Trim.calls (a0 : ByteArray) (r : ByteArray) (w : World) (h : text_Trim.f a0 = some r) :
    Calls Tryd.prog 31 #[.string a0] w fun e w' => e = .returned (.string r) ∧ Below w.heap.size w w' := by
  unfold text_Trim.f at h
  split at h
  case isFalse => exact absurd h (by simp)
  rename_i hs
  have H := Aside0.mk (Option.some.inj h)
  clear h
  go_enter Tryd.func31, Tryd.ntmps31
  go_wp2_with (go_at_call 53; refine (Tryd.strings_Trim a0 _ _ hs (by decide +kernel) (ascii_of_all (by decide +kernel))).mono ?_; rintro e w' ⟨rfl, hB⟩)
  go_ret
  exact ⟨by rw [← H.out]; rfl, hB⟩

end Go.Proofs.YthjhbhgfckaklabDoor.P
