/-
  DERIVED: THE SHELF's CONTRACTS AT THIS DUMP, IN PLAIN WORDS (tools/lay-plain.mjs out of 'YthjhbhgfckaklaaDoorShelfKZ.lean', which tools/lay-shelf.mjs wrote): THE SAME DECLARATIONS UNDER THE SAME NAMES: 'import', 'namespace', 'open', 'def', 'theorem' AND NOTHING ELSE: no command of the shelf's: FOR A HAND-IN. Each laying: the table of numbers ('.._ren') and one theorem, a field a fact of the dump's own or the kernel's comparison; each contract: ONE APPLICATION.
-/
import Derived.Shelf.LaysM
import Derived.Shelf.Strconv.Itoa3
import Derived.Test.YthjhbhgfckaklaaDoorProg
namespace Go.Proofs
open Go.Shelf
def Tryd.laysM171_ren : Go.Shelf.Ren := ⟨fun | 171 => 106 | 243 => 135 | 246 => 154 | 283 => 168 | 284 => 169 | 285 => 170 | 286 => 171 | 129 => 176 | 317 => 175 | 318 => 177 | 319 => 178 | 320 => 179 | 337 => 182 | 338 => 183 | n => n, fun | 3 => 3 | 9 => 9 | 2 => 2 | 4 => 4 | 171 => 187 | 0 => 0 | 53 => 188 | 37 => 71 | 5 => 5 | 173 => 191 | 212 => 202 | 51 => 162 | 20 => 20 | 213 => 203 | 46 => 141 | 232 => 209 | 233 => 210 | n => n, fun | 17 => 3 | 18 => 4 | 19 => 5 | n => n⟩
theorem Tryd.laysM171 : Go.Proofs.LaysM.n171 Tryd.prog Tryd.laysM171_ren := {
 mixed := by kernel_rfl
 f129 := Tryd.func176.trans (congrArg some (by kernel_rfl))
 f171 := Tryd.func106.trans (congrArg some (by kernel_rfl))
 f243 := Tryd.func135.trans (congrArg some (by kernel_rfl))
 f246 := Tryd.func154.trans (congrArg some (by kernel_rfl))
 f283 := Tryd.func168.trans (congrArg some (by kernel_rfl))
 f284 := Tryd.func169.trans (congrArg some (by kernel_rfl))
 f285 := Tryd.func170.trans (congrArg some (by kernel_rfl))
 f286 := Tryd.func171.trans (congrArg some (by kernel_rfl))
 f317 := Tryd.func175.trans (congrArg some (by kernel_rfl))
 f318 := Tryd.func177.trans (congrArg some (by kernel_rfl))
 f319 := Tryd.func178.trans (congrArg some (by kernel_rfl))
 f320 := Tryd.func179.trans (congrArg some (by kernel_rfl))
 f337 := Tryd.func182.trans (congrArg some (by kernel_rfl))
 f338 := Tryd.func183.trans (congrArg some (by kernel_rfl))
 t0 := Tryd.underlying0
 a0 := Tryd.isAgg0
 z0 := Tryd.sizeOf0
 v0 := Tryd.zeroValue0
 t2 := Tryd.underlying2
 a2 := Tryd.isAgg2
 z2 := Tryd.sizeOf2
 v2 := Tryd.zeroValue2
 t3 := Tryd.underlying3
 a3 := Tryd.isAgg3
 z3 := Tryd.sizeOf3
 v3 := Tryd.zeroValue3
 t4 := Tryd.underlying4
 a4 := Tryd.isAgg4
 z4 := Tryd.sizeOf4
 v4 := Tryd.zeroValue4
 t5 := Tryd.underlying5
 a5 := Tryd.isAgg5
 z5 := Tryd.sizeOf5
 v5 := Tryd.zeroValue5
 t9 := Tryd.underlying9
 a9 := Tryd.isAgg9
 z9 := Tryd.sizeOf9
 v9 := Tryd.zeroValue9
 t20 := Tryd.underlying20
 a20 := Tryd.isAgg20
 z20 := Tryd.sizeOf20
 v20 := Tryd.zeroValue20
 t37 := Tryd.underlying71
 a37 := Tryd.isAgg71
 z37 := Tryd.sizeOf71
 v37 := Tryd.zeroValue71
 t46 := Tryd.underlying141
 a46 := Tryd.isAgg141
 z46 := Tryd.sizeOf141
 v46 := Tryd.zeroValue141
 t51 := Tryd.underlying162
 a51 := Tryd.isAgg162
 z51 := Tryd.sizeOf162
 v51 := Tryd.zeroValue162
 t53 := Tryd.underlying188
 a53 := Tryd.isAgg188
 z53 := Tryd.sizeOf188
 v53 := Tryd.zeroValue188
 t171 := Tryd.underlying187
 a171 := Tryd.isAgg187
 z171 := Tryd.sizeOf187
 v171 := Tryd.zeroValue187
 t173 := Tryd.underlying191
 a173 := Tryd.isAgg191
 z173 := Tryd.sizeOf191
 v173 := Tryd.zeroValue191
 t212 := Tryd.underlying202
 a212 := Tryd.isAgg202
 z212 := Tryd.sizeOf202
 v212 := Tryd.zeroValue202
 t213 := Tryd.underlying203
 a213 := Tryd.isAgg203
 z213 := Tryd.sizeOf203
 t232 := Tryd.underlying209
 a232 := Tryd.isAgg209
 z232 := Tryd.sizeOf209
 v232 := Tryd.zeroValue209
 t233 := Tryd.underlying210
 a233 := Tryd.isAgg210
 z233 := Tryd.sizeOf210
 v233 := Tryd.zeroValue210
 g17 := by kernel_rfl
 g18 := by kernel_rfl
 g19 := by kernel_rfl
 i0 := by kernel_rfl
 i2 := by kernel_rfl
 i3 := by kernel_rfl
 i4 := by kernel_rfl
 i5 := by kernel_rfl
 i9 := by kernel_rfl
 i20 := by kernel_rfl
 i37 := by kernel_rfl
 i46 := by kernel_rfl
 i51 := by kernel_rfl
 i53 := by kernel_rfl
 i171 := by kernel_rfl
 i173 := by kernel_rfl
 i212 := by kernel_rfl
 i232 := by kernel_rfl
 i233 := by kernel_rfl
 m17 := by kernel_rfl
 m18 := by kernel_rfl
 m19 := by kernel_rfl }
open Go.RowKit Go.Sort Go.Lib in
theorem Tryd.strconv_Itoa (n : Int) (h0 : -9223372036854775808 ≤ n) (h1 : n ≤ 9223372036854775807) (w : World) (htab : Lib.TabIs Tryd.prog w "internal/strconv.uint64pow10" .u64 Lib.pow10Tab) :
  Calls Tryd.prog 106 #[.int .i64 n] w fun e w' => e = .returned (.string ⟨(Lib.itoa n).toArray⟩) ∧ ∃ k os, w' = grow (w.drewN k) os := Any.strconv_Itoa Tryd.laysM171 n h0 h1 w htab
end Go.Proofs
