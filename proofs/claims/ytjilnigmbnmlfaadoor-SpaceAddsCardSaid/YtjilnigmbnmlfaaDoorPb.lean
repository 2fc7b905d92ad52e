-- PRINTED by pr.py (a driver round the kit's print program): not trusted, Lean checks it.
import Derived.Test.YtjilnigmbnmlfaaDoorProg
import Derived.Below
import Derived.Deep.Draws
import Derived.Deep.AppendLies
import Derived.Maps.AppendAt
import Derived.OwnWalk
import Derived.Laws.BytesArg
import Derived.Laws.MakeOwn
import Derived.Laws.OwnMore
import Derived.Deep.OwnRows
import Derived.Tactics
import Derived.Lib.ConvBytes
import Derived.Laws.Slices
import Derived.WalkKit
import Derived.KernelRfl
import Derived.RowKit3
import Derived.Deep.LoopGhost
import Derived.Deep.QuietTactic
import Derived.BigQuiet
import Derived.WideLaws
import Derived.Deep.DeepCutAuto
import Derived.Deep.CutBlock
import Derived.Deep.RegionHeld3
import Derived.Laws.Rows
import Derived.Lib.AppendStr
import Derived.ArgAppend
import Derived.Laws.IdiomCopy
import Derived.OrdersHeld
import Derived.Laws.BitsLemmas
import Derived.RowKit
import Derived.Test.YtjilnigmbnmlfaaDoorWWords
import Derived.Test.YtjilnigmbnmlfaaDoorWLast
import Derived.Test.YtjilnigmbnmlfaaDoorM1
import Derived.Test.YtjilnigmbnmlfaaDoorWEqStruct
namespace Go.Proofs.YtjilnigmbnmlfaaDoor.P
open Go.RowKit Go.Proofs.YtjilnigmbnmlfaaDoorW.PrintWords Go.Proofs.YtjilnigmbnmlfaaDoorW.PrintLast Go.Proofs.YtjilnigmbnmlfaaDoorW.PrintMore
attribute [local go_sem] max2_int min2_int max_two min_two max_three min_three max_four min_four   -- for this text's walks alone
set_option linter.unusedVariables false
set_option linter.unusedSimpArgs false

def errW : Option Int → Value
  | none => .nilIface
  | some c => .iface 0 (.int .i64 c)
theorem errW_none : errW none = .nilIface := rfl
theorem errW_some (c : Int) : errW (some c) = .iface 0 (.int .i64 c) := rfl

theorem info9 : (Tryd.prog.info? 9).map (fun i => (i.zero, i.size, i.bytes)) = some (some (.string ⟨#[]⟩), 1, 16) := by kernel_rfl
-- the values' own types
/-! #### struct type 7 -/
structure S7 where
  f0 : Int
  f1 : Int
  f2 : Bool
  f3 : Int
/-! #### struct type 8 -/
structure S8 where
  f0 : Int
  f1 : Int
  f2 : Bool
  f3 : Int
/-! #### struct type 13 -/
structure S13 where
  f0 : ByteArray
  f1 : Int
/-! #### struct type 14 -/
structure S14 where
  f0 : ByteArray
  f1 : Int
/-! #### struct type 26 -/
structure S26 where
  f0 : Int
  f1 : Int
  f2 : Int
  f3 : Int
  f4 : Int
  f5 : Int
  f6 : Int
  f7 : Int
  f8 : Int
  f9 : Int
  f10 : Int
  f11 : Int
  f12 : Int
  f13 : Int
  f14 : Int
  f15 : Int
/-! #### struct type 28 -/
structure S28 where
  f0 : Int
  f1 : S26
/-! #### struct type 35 -/
structure S35 where
  f0 : S28
  f1 : Int
/-! #### struct type 58 -/
structure S58 where
  f0 : S35
  f1 : Int
/-! #### struct type 27 -/
structure S27 where
  f0 : Int
  f1 : S26
/-! #### struct type 34 -/
structure S34 where
  f0 : S28
  f1 : Int
/-! #### struct type 57 -/
structure S57 where
  f0 : S35
  f1 : Int
/-! #### struct type 64 -/
structure S64 where
  f0 : Int
  f1 : Int
  f2 : Int
  f3 : Int
  f4 : Int
  f5 : Int
  f6 : Int
  f7 : Int
/-! #### struct type 67 -/
structure S67 where
  f0 : (List ByteArray)
  f1 : (List ByteArray)
/-! #### struct type 74 -/
structure S74 where
  f0 : (List S58)
  f1 : Int
/-! #### struct type 75 -/
structure S75 where
  f0 : (List S58)
  f1 : Int
/-! #### struct type 76 -/
structure S76 where
  f0 : ByteArray
  f1 : ByteArray
  f2 : ByteArray
/-! #### struct type 110 -/
structure S110 where
  f0 : Int
  f1 : Int
  f2 : Int
  f3 : Int
end Go.Proofs.YtjilnigmbnmlfaaDoor.P
