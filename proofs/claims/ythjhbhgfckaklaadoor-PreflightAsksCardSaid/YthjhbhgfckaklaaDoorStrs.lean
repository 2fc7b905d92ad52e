/-
  The contracts of strings.Index, Split, Cut, CutPrefix and of head.shown, in the form that the print takes; the fact on internal/bytealg.MaxLen that three of them ask.
-/
import Derived.Test.YthjhbhgfckaklaaDoorM4
import Derived.Test.YthjhbhgfckaklaaDoorShelf
import Derived.Test.YthjhbhgfckaklaaDoorShelfI
import Derived.Shelf.Abstract
import Derived.Lib.AppendIntMem
namespace Go.Proofs.YthjhbhgfckaklaaDoor.P
open Go.RowKit Go.Proofs.YthjhbhgfckaklaaDoorW.PrintWords Go.Proofs.YthjhbhgfckaklaaDoorW.PrintLast Go.Proofs.YthjhbhgfckaklaaDoorW.PrintMore
set_option linter.unusedVariables false
set_option linter.unusedSimpArgs false
def MaxIs (w : World) : Prop := (∃ m, w.cell? ⟨0, 0, none⟩ = some (.int .i64 m)) ∧ Lib.TabIs Tryd.prog w "internal/strconv.uint64pow10" .u64 Lib.pow10Tab
theorem maxis_below {w w' : World} (h : MaxIs w) (hb : Below w.heap.size w w') : MaxIs w' := by
 obtain ⟨⟨m, hm⟩, ht⟩ := h
 exact ⟨⟨m, (hb.cell (World.block_lt_of_cell? w _ hm)).trans hm⟩, Lib.tabBelow_of_tabIs ht _ hb⟩
def strings_Cut.f (a0 a1 : ByteArray) : Option (ByteArray × ByteArray × Bool) :=
 if a0.size < 4294967281 then some ((⟨(Lib.cut a0.data.toList a1.data.toList).1.toArray⟩ : ByteArray), (⟨(Lib.cut a0.data.toList a1.data.toList).2.1.toArray⟩ : ByteArray), (Lib.cut a0.data.toList a1.data.toList).2.2) else none
theorem strings_Cut.calls (a0 a1 : ByteArray) (r1 r2 : ByteArray) (r3 : Bool) (w : World) (hmx : MaxIs w) (h : strings_Cut.f a0 a1 = some (r1, r2, r3)) :
  Calls Tryd.prog 57 #[.string a0, .string a1] w fun e w' => e = .returned (.tuple #[.string r1, .string r2, .bool r3]) ∧ Below w.heap.size w w' := by
 unfold strings_Cut.f at h
 split at h
 case isFalse => exact absurd h (by simp)
 rename_i hs
 obtain ⟨⟨m, hm⟩, _⟩ := hmx
 simp only [Option.some.injEq, Prod.mk.injEq] at h
 obtain ⟨h1, h2, h3⟩ := h
 refine (Tryd.strings_Cut a0 a1 m w hs hm).mono fun e w' ⟨he, n, hw⟩ => ?_
 subst hw
 exact ⟨by rw [he, h1, h2, h3], pw_below_drewN (Below.refl _ _) n⟩
end Go.Proofs.YthjhbhgfckaklaaDoor.P
