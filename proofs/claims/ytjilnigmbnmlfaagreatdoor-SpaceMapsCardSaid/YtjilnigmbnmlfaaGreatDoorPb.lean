-- PRINTED by pr.py (a driver round the kit's print program): not trusted, Lean checks it.
import Derived.Test.YtjilnigmbnmlfaaGreatDoorProg
import Derived.Below
import Derived.Deep.Draws
import Derived.Deep.AppendLies
import Derived.Maps.AppendAt
import Derived.OwnWalk
import Derived.Laws.BytesArg
import Derived.Laws.MakeOwn
import Derived.Laws.OwnMore
import Derived.Deep.OwnRows
import Derived.Tactics
import Derived.Lib.ConvBytes
import Derived.Laws.Slices
import Derived.WalkKit
import Derived.KernelRfl
import Derived.RowKit3
import Derived.Deep.LoopGhost
import Derived.Deep.QuietTactic
import Derived.BigQuiet
import Derived.WideLaws
import Derived.Deep.DeepCutAuto
import Derived.Deep.CutBlock
import Derived.Deep.RegionHeld3
import Derived.Laws.Rows
import Derived.Lib.AppendStr
import Derived.ArgAppend
import Derived.Laws.IdiomCopy
import Derived.OrdersHeld
import Derived.Laws.BitsLemmas
import Derived.RowKit
import Derived.Test.YtjilnigmbnmlfaaGreatDoorWWords
import Derived.Test.YtjilnigmbnmlfaaGreatDoorWLast
import Derived.Test.YtjilnigmbnmlfaaGreatDoorM1
import Derived.Test.YtjilnigmbnmlfaaGreatDoorWEqStruct
namespace Go.Proofs.YtjilnigmbnmlfaaGreatDoor.P
open Go.RowKit Go.Proofs.YtjilnigmbnmlfaaGreatDoorW.PrintWords Go.Proofs.YtjilnigmbnmlfaaGreatDoorW.PrintLast Go.Proofs.YtjilnigmbnmlfaaGreatDoorW.PrintMore
attribute [local go_sem] max2_int min2_int max_two min_two max_three min_three max_four min_four   -- for this text's walks alone
set_option linter.unusedVariables false
set_option linter.unusedSimpArgs false

def errW : Option Int → Value
  | none => .nilIface
  | some c => .iface 0 (.int .i64 c)
theorem errW_none : errW none = .nilIface := rfl
theorem errW_some (c : Int) : errW (some c) = .iface 0 (.int .i64 c) := rfl

theorem info9 : (Tryz.prog.info? 9).map (fun i => (i.zero, i.size, i.bytes)) = some (some (.string ⟨#[]⟩), 1, 16) := by kernel_rfl
-- the values' own types
/-! #### struct type 7 -/
structure S7 where
  f0 : Int
  f1 : Int
  f2 : Bool
  f3 : Int
def k7 : Kd S7 := Kd.iso (Kd.pair (Kd.int .i64) (Kd.pair (Kd.int .i64) (Kd.pair Kd.bool (Kd.int .u8)))) (fun x : S7 => (x.f0, x.f1, x.f2, x.f3))
/-! #### struct type 8 -/
structure S8 where
  f0 : Int
  f1 : Int
  f2 : Bool
  f3 : Int
/-! #### struct type 13 -/
structure S13 where
  f0 : ByteArray
  f1 : Int
/-! #### struct type 14 -/
structure S14 where
  f0 : ByteArray
  f1 : Int
/-! #### struct type 22 -/
structure S22 where
  f0 : Int
  f1 : Int
  f2 : Int
  f3 : Int
  f4 : Int
  f5 : Int
  f6 : Int
  f7 : Int
  f8 : Int
  f9 : Int
  f10 : Int
  f11 : Int
  f12 : Int
  f13 : Int
  f14 : Int
  f15 : Int
def z22 : S22 := ⟨(0 : Int), (0 : Int), (0 : Int), (0 : Int), (0 : Int), (0 : Int), (0 : Int), (0 : Int), (0 : Int), (0 : Int), (0 : Int), (0 : Int), (0 : Int), (0 : Int), (0 : Int), (0 : Int)⟩
/-! #### struct type 23 -/
structure S23 where
  f0 : Int
  f1 : S22
/-! #### struct type 24 -/
structure S24 where
  f0 : Int
  f1 : S22
def z24 : S24 := ⟨(0 : Int), z22⟩
/-! #### struct type 40 -/
structure S40 where
  f0 : S24
  f1 : Int
def z40 : S40 := ⟨z24, (0 : Int)⟩
/-! #### struct type 60 -/
structure S60 where
  f0 : S40
  f1 : Int
/-! #### struct type 46 -/
structure S46 where
  f0 : S40
  f1 : Int
def z46 : S46 := ⟨z40, (0 : Int)⟩
/-! #### struct type 39 -/
structure S39 where
  f0 : S24
  f1 : Int
/-! #### struct type 45 -/
structure S45 where
  f0 : S40
  f1 : Int
/-! #### struct type 54 -/
structure S54 where
  f0 : (List ByteArray)
  f1 : (List ByteArray)
/-! #### struct type 59 -/
structure S59 where
  f0 : S40
  f1 : Int
def z59 : S59 := ⟨z40, (0 : Int)⟩
/-! #### struct type 63 -/
structure S63 where
  f0 : (List S46)
  f1 : Int
/-! #### struct type 64 -/
structure S64 where
  f0 : (List S46)
  f1 : Int
/-! #### struct type 69 -/
structure S69 where
  f0 : Int
  f1 : Int
  f2 : Int
  f3 : Int
  f4 : Int
  f5 : Int
  f6 : Int
  f7 : Int
/-! #### struct type 106 -/
structure S106 where
  f0 : Int
  f1 : Int
  f2 : Int
  f3 : Int
end Go.Proofs.YtjilnigmbnmlfaaGreatDoor.P
