-- PRINTED by pr.py (a driver round the kit's print program): not trusted, Lean checks it.
import Derived.Test.YthjhbhgfckaklaaProg
import Derived.Below
import Derived.Deep.Draws
import Derived.Deep.AppendLies
import Derived.Maps.AppendAt
import Derived.OwnWalk
import Derived.Laws.BytesArg
import Derived.Laws.MakeOwn
import Derived.Laws.OwnMore
import Derived.Deep.OwnRows
import Derived.Tactics
import Derived.Lib.ConvBytes
import Derived.Laws.Slices
import Derived.WalkKit
import Derived.KernelRfl
import Derived.RowKit3
import Derived.Deep.LoopGhost
import Derived.Deep.QuietTactic
import Derived.BigQuiet
import Derived.WideLaws
import Derived.Deep.DeepCutAuto
import Derived.Deep.CutBlock
import Derived.Deep.RegionHeld3
import Derived.Laws.Rows
import Derived.Lib.AppendStr
import Derived.ArgAppend
import Derived.Laws.IdiomCopy
import Derived.OrdersHeld
import Derived.Laws.BitsLemmas
import Derived.RowKit
import Derived.Test.YthjhbhgfckaklaaWWords
import Derived.Test.YthjhbhgfckaklaaWLast
import Derived.Test.YthjhbhgfckaklaaWTab
import Derived.Test.YthjhbhgfckaklaaWFour
import Derived.Test.YthjhbhgfckaklaaWQPut
import Derived.Test.YthjhbhgfckaklaaWApart
import Derived.Test.YthjhbhgfckaklaaWArr
import Derived.Test.YthjhbhgfckaklaaWZeros
import Derived.Test.YthjhbhgfckaklaaWFoot
import Derived.Test.YthjhbhgfckaklaaWKept
import Derived.Test.YthjhbhgfckaklaaWShare
import Derived.Test.YthjhbhgfckaklaaWN
import Derived.Test.YthjhbhgfckaklaaWFootNe
import Derived.Test.YthjhbhgfckaklaaWAt
import Derived.Test.YthjhbhgfckaklaaWEqStruct
import Derived.Test.YthjhbhgfckaklaaWRepsOne
import Derived.Test.YthjhbhgfckaklaaWInv
import Derived.Test.YthjhbhgfckaklaaWInvWords
import Derived.Test.YthjhbhgfckaklaaWGuard
import Derived.Test.YthjhbhgfckaklaaWNEv
import Derived.Test.YthjhbhgfckaklaaWMore
namespace Go.Proofs.Ythjhbhgfckaklaa.P
open Go.RowKit Go.Proofs.YthjhbhgfckaklaaW.PrintWords Go.Proofs.YthjhbhgfckaklaaW.PrintLast Go.Proofs.YthjhbhgfckaklaaW.PrintMore
attribute [local go_sem] max2_int min2_int max_two min_two max_three min_three max_four min_four   -- for this text's walks alone
set_option linter.unusedVariables false
set_option linter.unusedSimpArgs false

-- the values' own types
/-! #### struct type 7 -/
structure S7 where
  f0 : Int
  f1 : Int
  f2 : Bool
  f3 : Int
/-! #### struct type 8 -/
structure S8 where
  f0 : Int
  f1 : Int
  f2 : Bool
  f3 : Int
/-! #### struct type 13 -/
structure S13 where
  f0 : ByteArray
  f1 : Int
/-! #### struct type 14 -/
structure S14 where
  f0 : ByteArray
  f1 : Int
/-! #### struct type 81 -/
structure S81 where
  f0 : ByteArray
  f1 : (List ByteArray)
/-! #### struct type 84 -/
structure S84 where
  f0 : ByteArray
  f1 : (List ByteArray)
/-! #### struct type 32 -/
structure S32 where
  f0 : Int
  f1 : Int
  f2 : Int
  f3 : Int
  f4 : Int
  f5 : Int
  f6 : Int
  f7 : Int
  f8 : Int
  f9 : Int
  f10 : Int
  f11 : Int
  f12 : Int
  f13 : Int
  f14 : Int
  f15 : Int
/-! #### struct type 33 -/
structure S33 where
  f0 : Int
  f1 : S32
/-! #### struct type 34 -/
structure S34 where
  f0 : Int
  f1 : S32
/-! #### struct type 38 -/
structure S38 where
  f0 : S34
  f1 : Int
/-! #### struct type 39 -/
structure S39 where
  f0 : S34
  f1 : Int
/-! #### struct type 41 -/
structure S41 where
  f0 : S39
  f1 : Int
/-! #### struct type 42 -/
structure S42 where
  f0 : S39
  f1 : Int
/-! #### struct type 53 -/
structure S53 where
  f0 : Int
  f1 : S39
  f2 : Int
  f3 : Bool
/-! #### struct type 63 -/
structure S63 where
  f0 : S39
  f1 : Int
/-! #### struct type 52 -/
structure S52 where
  f0 : Int
  f1 : S39
  f2 : Int
  f3 : Bool
/-! #### struct type 62 -/
structure S62 where
  f0 : S39
  f1 : Int
/-! #### struct type 80 -/
structure S80 where
  f0 : ByteArray
  f1 : (List ByteArray)
/-! #### struct type 89 -/
structure S89 where
  f0 : (List S42)
  f1 : Int
/-! #### struct type 90 -/
structure S90 where
  f0 : (List S42)
  f1 : Int
/-! #### struct type 131 -/
structure S131 where
  f0 : Int
  f1 : Int
/-! #### struct type 130 -/
structure S130 where
  f0 : Int
  f1 : Int
/-! #### struct type 141 -/
structure S141 where
  f0 : Int
  f1 : Int
  f2 : Int
  f3 : Int
end Go.Proofs.Ythjhbhgfckaklaa.P
