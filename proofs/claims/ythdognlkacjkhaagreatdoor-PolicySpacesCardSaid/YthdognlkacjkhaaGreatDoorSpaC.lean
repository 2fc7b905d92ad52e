/-
  The contracts of strings.Cut, Contains, LastIndexByte and of text.Decimal, in the form that the print takes; what they ask of the world.
-/
import Derived.Test.YthdognlkacjkhaaGreatDoorBase
import Derived.Test.YthdognlkacjkhaaGreatDoorShelf
import Derived.Shelf.Abstract
import Derived.Lib.AppendIntMem
namespace Go.Proofs.YthdognlkacjkhaaGreatDoor.P
open Go.RowKit Go.Proofs.YthdognlkacjkhaaGreatDoorW.PrintWords Go.Proofs.YthdognlkacjkhaaGreatDoorW.PrintLast Go.Proofs.YthdognlkacjkhaaGreatDoorW.PrintMore
set_option linter.unusedVariables false
set_option linter.unusedSimpArgs false
/-- internal/bytealg.MaxLen holds some int, and the table of powers stands. -/
def MaxIs (w : World) : Prop := (∃ m, w.cell? ⟨0, 0, none⟩ = some (.int .i64 m)) ∧ Lib.TabIs Tryz.prog w "internal/strconv.uint64pow10" .u64 Lib.pow10Tab
theorem maxis_below {w w' : World} (h : MaxIs w) (hb : Below w.heap.size w w') : MaxIs w' := by
  obtain ⟨⟨m, hm⟩, ht⟩ := h
  exact ⟨⟨m, (hb.cell (World.block_lt_of_cell? w _ hm)).trans hm⟩, Lib.tabBelow_of_tabIs ht _ hb⟩
def strings_Cut.f (a0 a1 : ByteArray) : Option (ByteArray × ByteArray × Bool) :=
  if a0.size < 4294967281 then some ((⟨(Lib.cut a0.data.toList a1.data.toList).1.toArray⟩ : ByteArray), (⟨(Lib.cut a0.data.toList a1.data.toList).2.1.toArray⟩ : ByteArray), (Lib.cut a0.data.toList a1.data.toList).2.2) else none
theorem strings_Cut.calls (a0 a1 : ByteArray) (r1 r2 : ByteArray) (r3 : Bool) (w : World) (hmx : MaxIs w) (h : strings_Cut.f a0 a1 = some (r1, r2, r3)) :
    Calls Tryz.prog 97 #[.string a0, .string a1] w fun e w' => e = .returned (.tuple #[.string r1, .string r2, .bool r3]) ∧ Below w.heap.size w w' := by
  unfold strings_Cut.f at h
  split at h
  case isFalse => exact absurd h (by simp)
  rename_i hs
  obtain ⟨⟨m, hm⟩, _⟩ := hmx
  simp only [Option.some.injEq, Prod.mk.injEq] at h
  obtain ⟨h1, h2, h3⟩ := h
  refine (Tryz.strings_Cut a0 a1 m w hs hm).mono fun e w' ⟨he, n, hw⟩ => ?_
  subst hw
  exact ⟨by rw [he, h1, h2, h3], pw_below_drewN (Below.refl _ _) n⟩
def strings_Contains.f (a0 a1 : ByteArray) : Option Bool := if a0.size < 4294967281 then some (Lib.contains a0.data.toList a1.data.toList) else none
theorem strings_Contains.calls (a0 a1 : ByteArray) (r : Bool) (w : World) (hmx : MaxIs w) (h : strings_Contains.f a0 a1 = some r) :
    Calls Tryz.prog 133 #[.string a0, .string a1] w fun e w' => e = .returned (.bool r) ∧ Below w.heap.size w w' := by
  unfold strings_Contains.f at h
  split at h
  case isFalse => exact absurd h (by simp)
  rename_i hs
  obtain ⟨⟨m, hm⟩, _⟩ := hmx
  refine (Tryz.strings_Contains a0 a1 m w hs hm).mono fun e w' ⟨he, hw⟩ => ?_
  subst hw
  exact ⟨by rw [he, Option.some.inj h], Below.refl _ _⟩
def strings_LastIndexByte.f (a0 : ByteArray) (a1 : Int) : Option Int := if a0.size < 4611686018427387904 then some (Lib.lastIndexByte a0 a1) else none
theorem strings_LastIndexByte.calls (a0 : ByteArray) (a1 : Int) (r : Int) (w : World) (h : strings_LastIndexByte.f a0 a1 = some r) :
    Calls Tryz.prog 36 #[.string a0, .int .u8 a1] w fun e w' => e = .returned (.int .i64 r) ∧ Below w.heap.size w w' := by
  unfold strings_LastIndexByte.f at h
  split at h
  case isFalse => exact absurd h (by simp)
  rename_i hs
  refine (Tryz.strings_LastIndexByte a0 a1 hs w).mono fun e w' ⟨he, hw⟩ => ?_
  subst hw
  exact ⟨by rw [he, Option.some.inj h], Below.refl _ _⟩
def text_Decimal.f (a0 : Int) : Option ByteArray := if -9223372036854775808 ≤ a0 ∧ a0 ≤ 9223372036854775807 then some ⟨(Lib.itoa a0).toArray⟩ else none
set_option maxRecDepth 100000 in
theorem text_Decimal.calls (a0 : Int) (r : ByteArray) (w : World) (hmx : MaxIs w) (h : text_Decimal.f a0 = some r) :
    Calls Tryz.prog 39 #[.int .i64 a0] w fun e w' => e = .returned (.string r) ∧ Below w.heap.size w w' := by
  unfold text_Decimal.f at h
  split at h
  case isFalse => exact absurd h (by simp)
  rename_i hs
  have H := Aside0.mk (Option.some.inj h)
  have HT := Aside0.mk hmx.2
  clear h hmx
  go_enter Tryz.func39, Tryz.ntmps39
  go_wp2_with (go_at_call 68; refine (Tryz.strconv_Itoa a0 hs.1 hs.2 _ HT.out).mono ?_; rintro e w' ⟨rfl, ⟨k, os, rfl⟩⟩)
  go_ret
  exact ⟨by rw [← H.out]; rfl, Lib.below_grow _ w (Nat.le_refl _) _ _⟩
end Go.Proofs.YthdognlkacjkhaaGreatDoor.P
