-- PRINTED by pr.py (a driver round the kit's print program): not trusted, Lean checks it.
import Derived.Test.YthdognlkacjkhaaGreatDoorProg
import Derived.Below
import Derived.Deep.Draws
import Derived.Deep.AppendLies
import Derived.Maps.AppendAt
import Derived.OwnWalk
import Derived.Laws.BytesArg
import Derived.Laws.MakeOwn
import Derived.Laws.OwnMore
import Derived.Deep.OwnRows
import Derived.Tactics
import Derived.Lib.ConvBytes
import Derived.Laws.Slices
import Derived.WalkKit
import Derived.KernelRfl
import Derived.RowKit3
import Derived.Deep.LoopGhost
import Derived.Deep.QuietTactic
import Derived.BigQuiet
import Derived.WideLaws
import Derived.Deep.DeepCutAuto
import Derived.Deep.CutBlock
import Derived.Deep.RegionHeld3
import Derived.Laws.Rows
import Derived.Lib.AppendStr
import Derived.ArgAppend
import Derived.Laws.IdiomCopy
import Derived.OrdersHeld
import Derived.Laws.BitsLemmas
import Derived.RowKit
import Derived.Test.YthdognlkacjkhaaGreatDoorWWords
import Derived.Test.YthdognlkacjkhaaGreatDoorWLast
import Derived.Test.YthdognlkacjkhaaGreatDoorM1
import Derived.Test.YthdognlkacjkhaaGreatDoorWEqStruct
namespace Go.Proofs.YthdognlkacjkhaaGreatDoor.P
open Go.RowKit Go.Proofs.YthdognlkacjkhaaGreatDoorW.PrintWords Go.Proofs.YthdognlkacjkhaaGreatDoorW.PrintLast Go.Proofs.YthdognlkacjkhaaGreatDoorW.PrintMore
attribute [local go_sem] max2_int min2_int max_two min_two max_three min_three max_four min_four   -- for this text's walks alone
set_option linter.unusedVariables false
set_option linter.unusedSimpArgs false

def errW : Option Int → Value
  | none => .nilIface
  | some c => .iface 0 (.int .i64 c)
theorem errW_none : errW none = .nilIface := rfl
theorem errW_some (c : Int) : errW (some c) = .iface 0 (.int .i64 c) := rfl

theorem info3 : (Tryz.prog.info? 3).map (fun i => (i.zero, i.size, i.bytes)) = some (some (.int .i64 0), 1, 8) := by kernel_rfl
theorem info9 : (Tryz.prog.info? 9).map (fun i => (i.zero, i.size, i.bytes)) = some (some (.string ⟨#[]⟩), 1, 16) := by kernel_rfl
-- the values' own types
/-! #### struct type 7 -/
structure S7 where
  f0 : Int
  f1 : Int
  f2 : Bool
  f3 : Int
def k7 : Kd S7 := Kd.iso (Kd.pair (Kd.int .i64) (Kd.pair (Kd.int .i64) (Kd.pair Kd.bool (Kd.int .u8)))) (fun x : S7 => (x.f0, x.f1, x.f2, x.f3))
/-! #### struct type 8 -/
structure S8 where
  f0 : Int
  f1 : Int
  f2 : Bool
  f3 : Int
def k8 : Kd S8 := Kd.iso (Kd.pair (Kd.int .i64) (Kd.pair (Kd.int .i64) (Kd.pair Kd.bool (Kd.int .u8)))) (fun x : S8 => (x.f0, x.f1, x.f2, x.f3))
/-! #### struct type 13 -/
structure S13 where
  f0 : ByteArray
  f1 : Int
/-! #### struct type 14 -/
structure S14 where
  f0 : ByteArray
  f1 : Int
/-! #### struct type 28 -/
structure S28 where
  f0 : Int
  f1 : Int
  f2 : Int
  f3 : Int
  f4 : Int
  f5 : Int
  f6 : Int
  f7 : Int
  f8 : Int
  f9 : Int
  f10 : Int
  f11 : Int
  f12 : Int
  f13 : Int
  f14 : Int
  f15 : Int
def z28 : S28 := ⟨(0 : Int), (0 : Int), (0 : Int), (0 : Int), (0 : Int), (0 : Int), (0 : Int), (0 : Int), (0 : Int), (0 : Int), (0 : Int), (0 : Int), (0 : Int), (0 : Int), (0 : Int), (0 : Int)⟩
/-! #### struct type 30 -/
structure S30 where
  f0 : Int
  f1 : S28
def z30 : S30 := ⟨(0 : Int), z28⟩
/-! #### struct type 42 -/
structure S42 where
  f0 : S30
  f1 : Int
def z42 : S42 := ⟨z30, (0 : Int)⟩
/-! #### struct type 44 -/
structure S44 where
  f0 : S42
  f1 : Int
/-! #### struct type 52 -/
structure S52 where
  f0 : S42
  f1 : Int
/-! #### struct type 29 -/
structure S29 where
  f0 : Int
  f1 : S28
/-! #### struct type 41 -/
structure S41 where
  f0 : S30
  f1 : Int
/-! #### struct type 43 -/
structure S43 where
  f0 : S42
  f1 : Int
/-! #### struct type 51 -/
structure S51 where
  f0 : S42
  f1 : Int
def z51 : S51 := ⟨z42, (0 : Int)⟩
/-! #### struct type 55 -/
structure S55 where
  f0 : ByteArray
  f1 : ByteArray
  f2 : Int
/-! #### struct type 56 -/
structure S56 where
  f0 : ByteArray
  f1 : ByteArray
  f2 : Int
/-! #### struct type 57 -/
structure S57 where
  f0 : S56
  f1 : Int
  f2 : Bool
/-! #### struct type 58 -/
structure S58 where
  f0 : S56
  f1 : Int
  f2 : Bool
/-! #### struct type 60 -/
structure S60 where
  f0 : ByteArray
  f1 : ByteArray
  f2 : Int
  f3 : ByteArray
  f4 : ByteArray
/-! #### struct type 61 -/
structure S61 where
  f0 : ByteArray
  f1 : ByteArray
  f2 : Int
  f3 : ByteArray
  f4 : ByteArray
/-! #### struct type 65 -/
structure S65 where
  f0 : (List ByteArray)
  f1 : (List ByteArray)
/-! #### struct type 76 -/
structure S76 where
  f0 : Int
  f1 : Int
  f2 : Int
  f3 : Int
  f4 : Int
  f5 : Int
  f6 : Int
  f7 : Int
/-! #### struct type 170 -/
structure S170 where
  f0 : ByteArray
  f1 : ByteArray
def z170 : S170 := ⟨(⟨#[]⟩ : ByteArray), (⟨#[]⟩ : ByteArray)⟩
def k170 : Kd S170 := Kd.iso (Kd.pair Kd.string Kd.string) (fun x : S170 => (x.f0, x.f1))
theorem k170_open {w : World} {x : S170} {cs : List Value} (h : k170.K w x cs) : cs = [.string x.f0, .string x.f1] := by
  obtain ⟨_, _, rfl, rfl, rfl⟩ := h
  exact rfl
def rd_T170 (xs : List S170) (i : Int) : S170 := xs.getD i.toNat z170
theorem at_T170 {w : World} {A : Option Addr} {n : Nat} {xs : List S170} (h : Kd.C k170 w A n xs) (i : Int) (h0 : 0 ≤ i) (h1 : i < n) : ∃ ad , A = some ad ∧ w.cell? (ad.add (i.toNat * 2)) = some (.string (rd_T170 xs i).f0) ∧ w.cell? ⟨(ad.add (i.toNat * 2)).block, (ad.add (i.toNat * 2)).off + 1, none⟩ = some (.string (rd_T170 xs i).f1) := by
  obtain ⟨ad, c, e, _, hK, hc0⟩ := Kd.C_get h z170 i h0 h1
  have hc : ∀ j u, c[j]? = some u → w.cell? (ad.add (i.toNat * 2 + j)) = some u := hc0
  obtain rfl := k170_open hK
  exact ⟨ad, e, hc 0 _ rfl, by rw [← add_field _ _ 1 (by omega)]; exact hc 1 _ rfl⟩

/-! #### struct type 97 -/
structure S97 where
  f0 : (List S44)
  f1 : Int
/-! #### struct type 98 -/
structure S98 where
  f0 : (List S44)
  f1 : Int
/-! #### struct type 138 -/
structure S138 where
  f0 : ByteArray
  f1 : (List ByteArray)
/-! #### struct type 137 -/
structure S137 where
  f0 : ByteArray
  f1 : (List ByteArray)
/-! #### struct type 143 -/
structure S143 where
  f0 : Int
  f1 : Int
  f2 : Int
  f3 : Int
/-! #### struct type 169 -/
structure S169 where
  f0 : ByteArray
  f1 : ByteArray
/-! #### struct type 190 -/
structure S190 where
  f0 : Int
  f1 : Int
/-! #### struct type 189 -/
structure S189 where
  f0 : Int
  f1 : Int
/-! #### struct type 207 -/
structure S207 where
  f0 : Int
  f1 : Int
/-! #### struct type 208 -/
structure S208 where
  f0 : Int
  f1 : Int
/-! #### struct type 209 -/
structure S209 where
  f0 : S208
  f1 : S208
  f2 : S208
  f3 : S208
  f4 : S208
  f5 : S208
  f6 : S208
  f7 : S208
  f8 : S208
  f9 : S208
  f10 : S208
  f11 : S208
  f12 : S208
  f13 : S208
  f14 : S208
  f15 : S208
end Go.Proofs.YthdognlkacjkhaaGreatDoor.P
