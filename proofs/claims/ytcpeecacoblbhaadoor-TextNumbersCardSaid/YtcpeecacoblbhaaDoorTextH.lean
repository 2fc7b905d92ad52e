/-
  The contracts of text.Trim and text.Decimal, out of the shelf's for strings.Trim and strconv.Itoa.
-/
import Derived.Test.YtcpeecacoblbhaaDoorBase
import Derived.Test.YtcpeecacoblbhaaDoorShelf
import Derived.Lib.AppendIntMem
namespace Go.Proofs.YtcpeecacoblbhaaDoor.P
open Go.RowKit Go.Proofs.YtcpeecacoblbhaaDoorW.PrintWords Go.Proofs.YtcpeecacoblbhaaDoorW.PrintLast Go.Proofs.YtcpeecacoblbhaaDoorW.PrintMore
set_option linter.unusedVariables false
set_option linter.unusedSimpArgs false

-- EXT abatis/text.Trim {"rounds": 0, "making": 1}
def text_Trim.f (a0 : ByteArray) : Option ByteArray := if a0.size ≤ 9223372036854775807 then some ⟨(Lib.trimS a0.data.toList [32, 9]).toArray⟩ else none
set_option maxRecDepth 100000 in
theorem text_Trim.calls (a0 : ByteArray) (r : ByteArray) (w : World) (h : text_Trim.f a0 = some r) :
    Calls Tryd.prog 12 #[.string a0] w fun e w' => e = .returned (.string r) ∧ Below w.heap.size w w' := by
  unfold text_Trim.f at h
  split at h
  case isFalse => exact absurd h (by simp)
  rename_i hs
  have H := Aside0.mk (Option.some.inj h)
  clear h
  go_enter Tryd.func12, Tryd.ntmps12
  go_wp2_with (go_at_call 20; refine (Tryd.strings_Trim a0 _ _ hs (by decide +kernel) (ascii_of_all (by decide +kernel))).mono ?_; rintro e w' ⟨rfl, hB⟩)
  go_ret
  exact ⟨by rw [← H.out]; rfl, hB⟩

theorem tab_below {P : Program} {w w' : World} {name : String} {k : IntKind} {zs : List Int} (h : Lib.TabIs P w name k zs) (hb : Below w.heap.size w w') : Lib.TabIs P w' name k zs := Lib.tabBelow_of_tabIs h _ hb

-- EXT abatis/text.Decimal {"rounds": 0, "making": 1}
def text_Decimal.f (a0 : Int) : Option ByteArray := if -9223372036854775808 ≤ a0 ∧ a0 ≤ 9223372036854775807 then some ⟨(Lib.itoa a0).toArray⟩ else none
set_option maxRecDepth 100000 in
theorem text_Decimal.calls (a0 : Int) (r : ByteArray) (w : World) (htab : Lib.TabIs Tryd.prog w "internal/strconv.uint64pow10" .u64 Lib.pow10Tab) (h : text_Decimal.f a0 = some r) :
    Calls Tryd.prog 8 #[.int .i64 a0] w fun e w' => e = .returned (.string r) ∧ Below w.heap.size w w' := by
  unfold text_Decimal.f at h
  split at h
  case isFalse => exact absurd h (by simp)
  rename_i hs
  have H := Aside0.mk (Option.some.inj h)
  clear h
  go_enter Tryd.func8, Tryd.ntmps8
  go_wp2_with (go_at_call 19; refine (Tryd.strconv_Itoa a0 hs.1 hs.2 _ htab).mono ?_; rintro e w' ⟨rfl, ⟨k, os, rfl⟩⟩)
  go_ret
  exact ⟨by rw [← H.out]; rfl, Lib.below_grow _ w (Nat.le_refl _) _ _⟩
end Go.Proofs.YtcpeecacoblbhaaDoor.P
