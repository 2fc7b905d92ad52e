/-
  DERIVED: THE SHELF's CONTRACTS AT THIS DUMP, IN PLAIN WORDS (tools/lay-plain.mjs out of 'YthjhbhgfckaklaaDoorShelfIZ.lean', which tools/lay-shelf.mjs wrote): THE SAME DECLARATIONS UNDER THE SAME NAMES: 'import', 'namespace', 'open', 'def', 'theorem' AND NOTHING ELSE: no command of the shelf's: FOR A HAND-IN. Each laying: the table of numbers ('.._ren') and one theorem, a field a fact of the dump's own or the kernel's comparison; each contract: ONE APPLICATION.
-/
import Derived.Shelf.Strings.Search3
import Derived.Shelf.Strings.Cut
import Derived.Shelf.Strings.Split
import Derived.Shelf.Small.Wraps
import Derived.Shelf.GgClosure.StringsRunes
import Derived.Test.YthjhbhgfckaklaaDoorProg
namespace Go.Proofs
open Go.Shelf
def Tryd.lays145_ren : Go.Shelf.Ren := ⟨fun | 145 => 57 | 220 => 92 | 219 => 95 | 217 => 111 | 225 => 112 | 224 => 113 | 267 => 114 | 266 => 138 | 314 => 139 | n => n, fun | 9 => 9 | 4 => 4 | 59 => 95 | 3 => 3 | 5 => 5 | 46 => 141 | 146 => 163 | 51 => 162 | n => n, fun | 1 => 0 | n => n⟩
theorem Tryd.lays145 : Go.Proofs.Lays.n145 Tryd.prog Tryd.lays145_ren := {
 mixed := by kernel_rfl
 f145 := Tryd.func57.trans (congrArg some (by kernel_rfl))
 f217 := Tryd.func111.trans (congrArg some (by kernel_rfl))
 f219 := Tryd.func95.trans (congrArg some (by kernel_rfl))
 f220 := Tryd.func92.trans (congrArg some (by kernel_rfl))
 f224 := Tryd.func113.trans (congrArg some (by kernel_rfl))
 f225 := Tryd.func112.trans (congrArg some (by kernel_rfl))
 f266 := Tryd.func138.trans (congrArg some (by kernel_rfl))
 f267 := Tryd.func114.trans (congrArg some (by kernel_rfl))
 f314 := Tryd.func139.trans (congrArg some (by kernel_rfl))
 t3 := Tryd.underlying3
 a3 := Tryd.isAgg3
 z3 := Tryd.sizeOf3
 v3 := Tryd.zeroValue3
 t4 := Tryd.underlying4
 a4 := Tryd.isAgg4
 z4 := Tryd.sizeOf4
 v4 := Tryd.zeroValue4
 t5 := Tryd.underlying5
 a5 := Tryd.isAgg5
 z5 := Tryd.sizeOf5
 v5 := Tryd.zeroValue5
 t9 := Tryd.underlying9
 a9 := Tryd.isAgg9
 z9 := Tryd.sizeOf9
 v9 := Tryd.zeroValue9
 t46 := Tryd.underlying141
 a46 := Tryd.isAgg141
 z46 := Tryd.sizeOf141
 v46 := Tryd.zeroValue141
 t51 := Tryd.underlying162
 a51 := Tryd.isAgg162
 z51 := Tryd.sizeOf162
 v51 := Tryd.zeroValue162
 t59 := Tryd.underlying95
 a59 := Tryd.isAgg95
 z59 := Tryd.sizeOf95
 v59 := Tryd.zeroValue95
 t146 := Tryd.underlying163
 a146 := Tryd.isAgg163
 z146 := Tryd.sizeOf163
 v146 := Tryd.zeroValue163
 g1 := by kernel_rfl }
open Go.RowKit Go.Lib in
theorem Tryd.strings_Cut (s sep : ByteArray) (m : Int) (w : World) (hs : s.size < 4294967281) (hm : w.cell? ⟨0, 0, none⟩ = some (.int .i64 m)) :
  Calls Tryd.prog 57 #[.string s, .string sep] w fun e w' => e = .returned (.tuple #[.string ⟨(Lib.cut s.data.toList sep.data.toList).1.toArray⟩, .string ⟨(Lib.cut s.data.toList sep.data.toList).2.1.toArray⟩, .bool (Lib.cut s.data.toList sep.data.toList).2.2]) ∧ ∃ n, w' = w.drewN n := Any.strings_Cut Tryd.lays145 s sep m w hs hm
end Go.Proofs
