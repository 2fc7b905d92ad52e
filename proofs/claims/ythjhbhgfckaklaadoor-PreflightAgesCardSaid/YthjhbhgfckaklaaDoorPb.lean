-- PRINTED by pr.py (a driver round the kit's print program): not trusted, Lean checks it.
import Derived.Test.YthjhbhgfckaklaaDoorProg
import Derived.Below
import Derived.Deep.Draws
import Derived.Deep.AppendLies
import Derived.Maps.AppendAt
import Derived.OwnWalk
import Derived.Laws.BytesArg
import Derived.Laws.MakeOwn
import Derived.Laws.OwnMore
import Derived.Deep.OwnRows
import Derived.Tactics
import Derived.Lib.ConvBytes
import Derived.Laws.Slices
import Derived.WalkKit
import Derived.KernelRfl
import Derived.RowKit3
import Derived.Deep.LoopGhost
import Derived.Deep.QuietTactic
import Derived.BigQuiet
import Derived.WideLaws
import Derived.Deep.DeepCutAuto
import Derived.Deep.CutBlock
import Derived.Deep.RegionHeld3
import Derived.Laws.Rows
import Derived.Lib.AppendStr
import Derived.ArgAppend
import Derived.Laws.IdiomCopy
import Derived.OrdersHeld
import Derived.Laws.BitsLemmas
import Derived.RowKit
import Derived.Test.YthjhbhgfckaklaaDoorWWords
import Derived.Test.YthjhbhgfckaklaaDoorWLast
import Derived.Test.YthjhbhgfckaklaaDoorWTab
import Derived.Test.YthjhbhgfckaklaaDoorWFour
import Derived.Test.YthjhbhgfckaklaaDoorWQPut
import Derived.Test.YthjhbhgfckaklaaDoorWApart
import Derived.Test.YthjhbhgfckaklaaDoorWArr
import Derived.Test.YthjhbhgfckaklaaDoorWZeros
import Derived.Test.YthjhbhgfckaklaaDoorWFoot
import Derived.Test.YthjhbhgfckaklaaDoorWKept
import Derived.Test.YthjhbhgfckaklaaDoorWShare
import Derived.Test.YthjhbhgfckaklaaDoorWN
import Derived.Test.YthjhbhgfckaklaaDoorWFootNe
import Derived.Test.YthjhbhgfckaklaaDoorWAt
import Derived.Test.YthjhbhgfckaklaaDoorWEqStruct
import Derived.Test.YthjhbhgfckaklaaDoorWRepsOne
import Derived.Test.YthjhbhgfckaklaaDoorWInv
import Derived.Test.YthjhbhgfckaklaaDoorWInvWords
import Derived.Test.YthjhbhgfckaklaaDoorWGuard
import Derived.Test.YthjhbhgfckaklaaDoorWNEv
import Derived.Test.YthjhbhgfckaklaaDoorWMore
namespace Go.Proofs.YthjhbhgfckaklaaDoor.P
open Go.RowKit Go.Proofs.YthjhbhgfckaklaaDoorW.PrintWords Go.Proofs.YthjhbhgfckaklaaDoorW.PrintLast Go.Proofs.YthjhbhgfckaklaaDoorW.PrintMore
attribute [local go_sem] max2_int min2_int max_two min_two max_three min_three max_four min_four   -- for this text's walks alone
set_option linter.unusedVariables false
set_option linter.unusedSimpArgs false



def errW : Option Int → Value
  | none => .nilIface
  | some c => .iface 0 (.int .i64 c)
theorem errW_none : errW none = .nilIface := rfl
theorem errW_some (c : Int) : errW (some c) = .iface 0 (.int .i64 c) := rfl

theorem info2 : (Tryd.prog.info? 2).map (fun i => (i.zero, i.size, i.bytes)) = some (some (.int .i64 0), 1, 8) := by kernel_rfl
theorem info3 : (Tryd.prog.info? 3).map (fun i => (i.zero, i.size, i.bytes)) = some (some (.int .i64 0), 1, 8) := by kernel_rfl
theorem info4 : (Tryd.prog.info? 4).map (fun i => (i.zero, i.size, i.bytes)) = some (some (.bool false), 1, 1) := by kernel_rfl
theorem info5 : (Tryd.prog.info? 5).map (fun i => (i.zero, i.size, i.bytes)) = some (some (.int .u8 0), 1, 1) := by kernel_rfl
theorem info6 : (Tryd.prog.info? 6).map (fun i => (i.zero, i.size, i.bytes)) = some (some (.int .u8 0), 1, 1) := by kernel_rfl
theorem info7 : (Tryd.prog.info? 7).map (fun i => (i.zero, i.size, i.bytes)) = some (some (.agg #[(.int .i64 0), (.int .i64 0), (.bool false), (.int .u8 0)]), 4, 24) := by kernel_rfl
theorem info8 : (Tryd.prog.info? 8).map (fun i => (i.zero, i.size, i.bytes)) = some (some (.agg #[(.int .i64 0), (.int .i64 0), (.bool false), (.int .u8 0)]), 4, 24) := by kernel_rfl
theorem info9 : (Tryd.prog.info? 9).map (fun i => (i.zero, i.size, i.bytes)) = some (some (.string ⟨#[]⟩), 1, 16) := by kernel_rfl
theorem info10 : (Tryd.prog.info? 10).map (fun i => (i.zero, i.size, i.bytes)) = some (some (.string ⟨#[]⟩), 1, 16) := by kernel_rfl
theorem info11 : (Tryd.prog.info? 11).map (fun i => (i.zero, i.size, i.bytes)) = some (some (.string ⟨#[]⟩), 1, 16) := by kernel_rfl
theorem info12 : (Tryd.prog.info? 12).map (fun i => (i.zero, i.size, i.bytes)) = some (some (.int .u64 0), 1, 8) := by kernel_rfl
theorem info13 : (Tryd.prog.info? 13).map (fun i => (i.zero, i.size, i.bytes)) = some (some (.agg #[(.string ⟨#[]⟩), (.int .u64 0)]), 2, 24) := by kernel_rfl
theorem info14 : (Tryd.prog.info? 14).map (fun i => (i.zero, i.size, i.bytes)) = some (some (.agg #[(.string ⟨#[]⟩), (.int .u64 0)]), 2, 24) := by kernel_rfl
theorem info21 : (Tryd.prog.info? 21).map (fun i => (i.zero, i.size, i.bytes)) = some (some (.int .i32 0), 1, 4) := by kernel_rfl
theorem info22 : (Tryd.prog.info? 22).map (fun i => (i.zero, i.size, i.bytes)) = some (some (.slice none 0 0), 1, 24) := by kernel_rfl
theorem info24 : (Tryd.prog.info? 24).map (fun i => (i.zero, i.size, i.bytes)) = some (some (.agg #[(.string ⟨#[]⟩), (.string ⟨#[]⟩)]), 2, 32) := by kernel_rfl
theorem info25 : (Tryd.prog.info? 25).map (fun i => (i.zero, i.size, i.bytes)) = some (some (.agg #[(.string ⟨#[]⟩), (.string ⟨#[]⟩)]), 2, 32) := by kernel_rfl
theorem info26 : (Tryd.prog.info? 26).map (fun i => (i.zero, i.size, i.bytes)) = some (some (.slice none 0 0), 1, 24) := by kernel_rfl
theorem info28 : (Tryd.prog.info? 28).map (fun i => (i.zero, i.size, i.bytes)) = some (some (.slice none 0 0), 1, 24) := by kernel_rfl
theorem info31 : (Tryd.prog.info? 31).map (fun i => (i.zero, i.size, i.bytes)) = some (some (.slice none 0 0), 1, 24) := by kernel_rfl
theorem info33 : (Tryd.prog.info? 33).map (fun i => (i.zero, i.size, i.bytes)) = some (some (.slice none 0 0), 1, 24) := by kernel_rfl
theorem info37 : (Tryd.prog.info? 37).map (fun i => (i.zero, i.size, i.bytes)) = some (some (.slice none 0 0), 1, 24) := by kernel_rfl
theorem info40 : (Tryd.prog.info? 40).map (fun i => (i.zero, i.size, i.bytes)) = some (some (.agg #[(.string ⟨#[]⟩), (.string ⟨#[]⟩), (.string ⟨#[]⟩), (.slice none 0 0), (.bool false)]), 5, 80) := by kernel_rfl
theorem info41 : (Tryd.prog.info? 41).map (fun i => (i.zero, i.size, i.bytes)) = some (some (.agg #[(.string ⟨#[]⟩), (.string ⟨#[]⟩), (.string ⟨#[]⟩), (.slice none 0 0), (.bool false)]), 5, 80) := by kernel_rfl
theorem info42 : (Tryd.prog.info? 42).map (fun i => (i.zero, i.size, i.bytes)) = some (some (.agg #[(.string ⟨#[]⟩), (.string ⟨#[]⟩), (.int .i64 0)]), 3, 40) := by kernel_rfl
theorem info43 : (Tryd.prog.info? 43).map (fun i => (i.zero, i.size, i.bytes)) = some (some (.agg #[(.string ⟨#[]⟩), (.string ⟨#[]⟩), (.int .i64 0)]), 3, 40) := by kernel_rfl
theorem info44 : (Tryd.prog.info? 44).map (fun i => (i.zero, i.size, i.bytes)) = some (some (.agg #[(.string ⟨#[]⟩), (.string ⟨#[]⟩), (.int .i64 0), (.string ⟨#[]⟩), (.string ⟨#[]⟩)]), 5, 72) := by kernel_rfl
theorem info45 : (Tryd.prog.info? 45).map (fun i => (i.zero, i.size, i.bytes)) = some (some (.agg #[(.string ⟨#[]⟩), (.string ⟨#[]⟩), (.int .i64 0), (.string ⟨#[]⟩), (.string ⟨#[]⟩)]), 5, 72) := by kernel_rfl
theorem info46 : (Tryd.prog.info? 46).map (fun i => (i.zero, i.size, i.bytes)) = some (some (.agg #[(.string ⟨#[]⟩), (.string ⟨#[]⟩), (.int .i64 0), (.string ⟨#[]⟩), (.string ⟨#[]⟩), (.int .i64 0), (.string ⟨#[]⟩), (.string ⟨#[]⟩), (.string ⟨#[]⟩), (.slice none 0 0), (.bool false)]), 11, 160) := by kernel_rfl
theorem info47 : (Tryd.prog.info? 47).map (fun i => (i.zero, i.size, i.bytes)) = some (some (.agg #[(.string ⟨#[]⟩), (.string ⟨#[]⟩), (.int .i64 0), (.string ⟨#[]⟩), (.string ⟨#[]⟩), (.int .i64 0), (.string ⟨#[]⟩), (.string ⟨#[]⟩), (.string ⟨#[]⟩), (.slice none 0 0), (.bool false)]), 11, 160) := by kernel_rfl
theorem info48 : (Tryd.prog.info? 48).map (fun i => (i.zero, i.size, i.bytes)) = some (some (.agg #[(.string ⟨#[]⟩), (.string ⟨#[]⟩), (.int .i64 0), (.string ⟨#[]⟩), (.string ⟨#[]⟩), (.int .i64 0), (.string ⟨#[]⟩), (.string ⟨#[]⟩), (.string ⟨#[]⟩), (.slice none 0 0), (.bool false)]), 11, 160) := by kernel_rfl
theorem info51 : (Tryd.prog.info? 51).map (fun i => (i.zero, i.size, i.bytes)) = some (some (.agg #[(.string ⟨#[]⟩), (.string ⟨#[]⟩), (.slice none 0 0)]), 3, 56) := by kernel_rfl
theorem info52 : (Tryd.prog.info? 52).map (fun i => (i.zero, i.size, i.bytes)) = some (some (.agg #[(.string ⟨#[]⟩), (.string ⟨#[]⟩), (.slice none 0 0)]), 3, 56) := by kernel_rfl
theorem info66 : (Tryd.prog.info? 66).map (fun i => (i.zero, i.size, i.bytes)) = some (some (.agg #[(.int .i64 0), (.slice none 0 0)]), 2, 32) := by kernel_rfl
theorem info67 : (Tryd.prog.info? 67).map (fun i => (i.zero, i.size, i.bytes)) = some (some (.agg #[(.int .i64 0), (.slice none 0 0)]), 2, 32) := by kernel_rfl
theorem info68 : (Tryd.prog.info? 68).map (fun i => (i.zero, i.size, i.bytes)) = some (some (.int .i64 0), 1, 8) := by kernel_rfl
theorem info71 : (Tryd.prog.info? 71).map (fun i => (i.zero, i.size, i.bytes)) = some (some (.slice none 0 0), 1, 24) := by kernel_rfl
theorem info76 : (Tryd.prog.info? 76).map (fun i => (i.zero, i.size, i.bytes)) = some (some (.agg #[(.string ⟨#[]⟩), (.slice none 0 0)]), 2, 40) := by kernel_rfl
theorem info77 : (Tryd.prog.info? 77).map (fun i => (i.zero, i.size, i.bytes)) = some (some (.agg #[(.string ⟨#[]⟩), (.slice none 0 0)]), 2, 40) := by kernel_rfl
theorem info79 : (Tryd.prog.info? 79).map (fun i => (i.zero, i.size, i.bytes)) = some (some (.agg #[(.string ⟨#[]⟩), (.slice none 0 0)]), 2, 40) := by kernel_rfl
theorem info90 : (Tryd.prog.info? 90).map (fun i => (i.zero, i.size, i.bytes)) = some (some (.agg #[(.string ⟨#[]⟩), (.string ⟨#[]⟩)]), 2, 32) := by kernel_rfl
theorem info123 : (Tryd.prog.info? 123).map (fun i => (i.zero, i.size, i.bytes)) = some (some (.slice none 0 0), 1, 24) := by kernel_rfl
theorem info141 : (Tryd.prog.info? 141).map (fun i => (i.zero, i.size, i.bytes)) = some (some (.int .u64 0), 1, 8) := by kernel_rfl
theorem info152 : (Tryd.prog.info? 152).map (fun i => (i.zero, i.size, i.bytes)) = some (some (.slice none 0 0), 1, 24) := by kernel_rfl
theorem info153 : (Tryd.prog.info? 153).map (fun i => (i.zero, i.size, i.bytes)) = some (some (.agg #[(.int .i64 0), (.int .i64 0)]), 2, 16) := by kernel_rfl
theorem info154 : (Tryd.prog.info? 154).map (fun i => (i.zero, i.size, i.bytes)) = some (some (.agg #[(.int .i64 0), (.int .i64 0)]), 2, 16) := by kernel_rfl
theorem info162 : (Tryd.prog.info? 162).map (fun i => (i.zero, i.size, i.bytes)) = some (some (.int .u32 0), 1, 4) := by kernel_rfl
theorem info170 : (Tryd.prog.info? 170).map (fun i => (i.zero, i.size, i.bytes)) = some (some (.int .u16 0), 1, 2) := by kernel_rfl
theorem info171 : (Tryd.prog.info? 171).map (fun i => (i.zero, i.size, i.bytes)) = some (some (.agg #[(.int .u16 0), (.int .u16 0), (.int .u16 0), (.int .u16 0), (.int .u16 0), (.int .u16 0), (.int .u16 0), (.int .u16 0)]), 8, 16) := by kernel_rfl
theorem info184 : (Tryd.prog.info? 184).map (fun i => (i.zero, i.size, i.bytes)) = some (some (.slice none 0 0), 1, 24) := by kernel_rfl
theorem info188 : (Tryd.prog.info? 188).map (fun i => (i.zero, i.size, i.bytes)) = some (some (.int .u64 0), 1, 8) := by kernel_rfl
theorem info194 : (Tryd.prog.info? 194).map (fun i => (i.zero, i.size, i.bytes)) = some (some (.agg #[(.int .u8 0), (.int .u8 0)]), 2, 2) := by kernel_rfl
theorem info195 : (Tryd.prog.info? 195).map (fun i => (i.zero, i.size, i.bytes)) = some (some (.agg #[(.int .u8 0), (.int .u8 0)]), 2, 2) := by kernel_rfl
theorem info196 : (Tryd.prog.info? 196).map (fun i => (i.zero, i.size, i.bytes)) = some (some (.agg #[(.int .u8 0), (.int .u8 0), (.int .u8 0), (.int .u8 0), (.int .u8 0), (.int .u8 0), (.int .u8 0), (.int .u8 0), (.int .u8 0), (.int .u8 0), (.int .u8 0), (.int .u8 0), (.int .u8 0), (.int .u8 0), (.int .u8 0), (.int .u8 0), (.int .u8 0), (.int .u8 0), (.int .u8 0), (.int .u8 0), (.int .u8 0), (.int .u8 0), (.int .u8 0), (.int .u8 0), (.int .u8 0), (.int .u8 0), (.int .u8 0), (.int .u8 0), (.int .u8 0), (.int .u8 0), (.int .u8 0), (.int .u8 0)]), 32, 32) := by kernel_rfl
theorem info197 : (Tryd.prog.info? 197).map (fun i => (i.zero, i.size, i.bytes)) = some (some (.slice none 0 0), 1, 24) := by kernel_rfl
theorem info217 : (Tryd.prog.info? 217).map (fun i => (i.zero, i.size, i.bytes)) = some (some (.int .u8 0), 1, 1) := by kernel_rfl
theorem info218 : (Tryd.prog.info? 218).map (fun i => (i.zero, i.size, i.bytes)) = some (some (.int .u8 0), 1, 1) := by kernel_rfl
theorem info220 : (Tryd.prog.info? 220).map (fun i => (i.zero, i.size, i.bytes)) = some (some (.int .i32 0), 1, 4) := by kernel_rfl
theorem info221 : (Tryd.prog.info? 221).map (fun i => (i.zero, i.size, i.bytes)) = some (some (.int .i32 0), 1, 4) := by kernel_rfl
-- the values' own types
/-! #### struct type 7 -/
structure S7 where
  f0 : Int
  f1 : Int
  f2 : Bool
  f3 : Int
def z7 : S7 := ⟨(0 : Int), (0 : Int), false, (0 : Int)⟩
def k7 : Kd S7 := Kd.iso (Kd.pair (Kd.int .i64) (Kd.pair (Kd.int .i64) (Kd.pair Kd.bool (Kd.int .u8)))) (fun x : S7 => (x.f0, x.f1, x.f2, x.f3))
theorem k7_heap : Kd.Heap k7 := Kd.heap_iso _ (Kd.heap_pair (Kd.heap_int .i64) (Kd.heap_pair (Kd.heap_int .i64) (Kd.heap_pair Kd.heap_bool (Kd.heap_int .u8))))
theorem k7_open {w : World} {x : S7} {cs : List Value} (h : k7.K w x cs) : cs = [.int .i64 x.f0, .int .i64 x.f1, .bool x.f2, .int .u8 x.f3] := by
  obtain ⟨_, _, rfl, rfl, ⟨_, _, rfl, rfl, ⟨_, _, rfl, rfl, rfl⟩⟩⟩ := h
  exact rfl
theorem k7_openM {w : World} {base : Nat} {ok : Nat → Prop} {x : S7} {cs : List Value} (h : k7.M w base ok x cs) : cs = [.int .i64 x.f0, .int .i64 x.f1, .bool x.f2, .int .u8 x.f3] := by
  obtain ⟨_, _, rfl, rfl, ⟨_, _, rfl, rfl, ⟨_, _, rfl, rfl, rfl⟩⟩⟩ := h
  exact rfl
theorem k7_mk (w : World) (x : S7)  : k7.K w x [.int .i64 x.f0, .int .i64 x.f1, .bool x.f2, .int .u8 x.f3] := ⟨[.int .i64 x.f0], [.int .i64 x.f1, .bool x.f2, .int .u8 x.f3], rfl, rfl, ⟨[.int .i64 x.f1], [.bool x.f2, .int .u8 x.f3], rfl, rfl, ⟨[.bool x.f2], [.int .u8 x.f3], rfl, rfl, rfl⟩⟩⟩
theorem k7_mkM (w : World) (base : Nat) (ok : Nat → Prop) (x : S7)  : k7.M w base ok x [.int .i64 x.f0, .int .i64 x.f1, .bool x.f2, .int .u8 x.f3] := ⟨[.int .i64 x.f0], [.int .i64 x.f1, .bool x.f2, .int .u8 x.f3], rfl, rfl, ⟨[.int .i64 x.f1], [.bool x.f2, .int .u8 x.f3], rfl, rfl, ⟨[.bool x.f2], [.int .u8 x.f3], rfl, rfl, rfl⟩⟩⟩
theorem k7_mkF (W : World) (ok : Nat → Prop) (x : S7) : Kd.FK k7 W ok x [.int .i64 x.f0, .int .i64 x.f1, .bool x.f2, .int .u8 x.f3] := fun W2 _ => k7_mk W2 x
def rd_T7 (xs : List S7) (i : Int) : S7 := xs.getD i.toNat z7
theorem at_T7 {w : World} {A : Option Addr} {n : Nat} {xs : List S7} (h : Kd.C k7 w A n xs) (i : Int) (h0 : 0 ≤ i) (h1 : i < n) : ∃ ad , A = some ad ∧ w.cell? (ad.add (i.toNat * 4)) = some (.int .i64 (rd_T7 xs i).f0) ∧ w.cell? ⟨(ad.add (i.toNat * 4)).block, (ad.add (i.toNat * 4)).off + 1, none⟩ = some (.int .i64 (rd_T7 xs i).f1) ∧ w.cell? ⟨(ad.add (i.toNat * 4)).block, (ad.add (i.toNat * 4)).off + 2, none⟩ = some (.bool (rd_T7 xs i).f2) ∧ w.cell? ⟨(ad.add (i.toNat * 4)).block, (ad.add (i.toNat * 4)).off + 3, none⟩ = some (.int .u8 (rd_T7 xs i).f3) := by
  obtain ⟨ad, c, e, _, hK, hc0⟩ := Kd.C_get h z7 i h0 h1
  have hc : ∀ j u, c[j]? = some u → w.cell? (ad.add (i.toNat * 4 + j)) = some u := hc0
  obtain rfl := k7_open hK
  exact ⟨ad, e, hc 0 _ rfl, by rw [← add_field _ _ 1 (by omega)]; exact hc 1 _ rfl, by rw [← add_field _ _ 2 (by omega)]; exact hc 2 _ rfl, by rw [← add_field _ _ 3 (by omega)]; exact hc 3 _ rfl⟩

/-! #### struct type 8 -/
structure S8 where
  f0 : Int
  f1 : Int
  f2 : Bool
  f3 : Int
def z8 : S8 := ⟨(0 : Int), (0 : Int), false, (0 : Int)⟩
def k8 : Kd S8 := Kd.iso (Kd.pair (Kd.int .i64) (Kd.pair (Kd.int .i64) (Kd.pair Kd.bool (Kd.int .u8)))) (fun x : S8 => (x.f0, x.f1, x.f2, x.f3))
theorem k8_heap : Kd.Heap k8 := Kd.heap_iso _ (Kd.heap_pair (Kd.heap_int .i64) (Kd.heap_pair (Kd.heap_int .i64) (Kd.heap_pair Kd.heap_bool (Kd.heap_int .u8))))
theorem k8_open {w : World} {x : S8} {cs : List Value} (h : k8.K w x cs) : cs = [.int .i64 x.f0, .int .i64 x.f1, .bool x.f2, .int .u8 x.f3] := by
  obtain ⟨_, _, rfl, rfl, ⟨_, _, rfl, rfl, ⟨_, _, rfl, rfl, rfl⟩⟩⟩ := h
  exact rfl
theorem k8_openM {w : World} {base : Nat} {ok : Nat → Prop} {x : S8} {cs : List Value} (h : k8.M w base ok x cs) : cs = [.int .i64 x.f0, .int .i64 x.f1, .bool x.f2, .int .u8 x.f3] := by
  obtain ⟨_, _, rfl, rfl, ⟨_, _, rfl, rfl, ⟨_, _, rfl, rfl, rfl⟩⟩⟩ := h
  exact rfl
theorem k8_mk (w : World) (x : S8)  : k8.K w x [.int .i64 x.f0, .int .i64 x.f1, .bool x.f2, .int .u8 x.f3] := ⟨[.int .i64 x.f0], [.int .i64 x.f1, .bool x.f2, .int .u8 x.f3], rfl, rfl, ⟨[.int .i64 x.f1], [.bool x.f2, .int .u8 x.f3], rfl, rfl, ⟨[.bool x.f2], [.int .u8 x.f3], rfl, rfl, rfl⟩⟩⟩
theorem k8_mkM (w : World) (base : Nat) (ok : Nat → Prop) (x : S8)  : k8.M w base ok x [.int .i64 x.f0, .int .i64 x.f1, .bool x.f2, .int .u8 x.f3] := ⟨[.int .i64 x.f0], [.int .i64 x.f1, .bool x.f2, .int .u8 x.f3], rfl, rfl, ⟨[.int .i64 x.f1], [.bool x.f2, .int .u8 x.f3], rfl, rfl, ⟨[.bool x.f2], [.int .u8 x.f3], rfl, rfl, rfl⟩⟩⟩
theorem k8_mkF (W : World) (ok : Nat → Prop) (x : S8) : Kd.FK k8 W ok x [.int .i64 x.f0, .int .i64 x.f1, .bool x.f2, .int .u8 x.f3] := fun W2 _ => k8_mk W2 x
def rd_T8 (xs : List S8) (i : Int) : S8 := xs.getD i.toNat z8
theorem at_T8 {w : World} {A : Option Addr} {n : Nat} {xs : List S8} (h : Kd.C k8 w A n xs) (i : Int) (h0 : 0 ≤ i) (h1 : i < n) : ∃ ad , A = some ad ∧ w.cell? (ad.add (i.toNat * 4)) = some (.int .i64 (rd_T8 xs i).f0) ∧ w.cell? ⟨(ad.add (i.toNat * 4)).block, (ad.add (i.toNat * 4)).off + 1, none⟩ = some (.int .i64 (rd_T8 xs i).f1) ∧ w.cell? ⟨(ad.add (i.toNat * 4)).block, (ad.add (i.toNat * 4)).off + 2, none⟩ = some (.bool (rd_T8 xs i).f2) ∧ w.cell? ⟨(ad.add (i.toNat * 4)).block, (ad.add (i.toNat * 4)).off + 3, none⟩ = some (.int .u8 (rd_T8 xs i).f3) := by
  obtain ⟨ad, c, e, _, hK, hc0⟩ := Kd.C_get h z8 i h0 h1
  have hc : ∀ j u, c[j]? = some u → w.cell? (ad.add (i.toNat * 4 + j)) = some u := hc0
  obtain rfl := k8_open hK
  exact ⟨ad, e, hc 0 _ rfl, by rw [← add_field _ _ 1 (by omega)]; exact hc 1 _ rfl, by rw [← add_field _ _ 2 (by omega)]; exact hc 2 _ rfl, by rw [← add_field _ _ 3 (by omega)]; exact hc 3 _ rfl⟩

/-! #### struct type 13 -/
structure S13 where
  f0 : ByteArray
  f1 : Int
def z13 : S13 := ⟨(⟨#[]⟩ : ByteArray), (0 : Int)⟩
def k13 : Kd S13 := Kd.iso (Kd.pair Kd.string (Kd.int .u64)) (fun x : S13 => (x.f0, x.f1))
theorem k13_heap : Kd.Heap k13 := Kd.heap_iso _ (Kd.heap_pair Kd.heap_string (Kd.heap_int .u64))
theorem k13_open {w : World} {x : S13} {cs : List Value} (h : k13.K w x cs) : cs = [.string x.f0, .int .u64 x.f1] := by
  obtain ⟨_, _, rfl, rfl, rfl⟩ := h
  exact rfl
theorem k13_openM {w : World} {base : Nat} {ok : Nat → Prop} {x : S13} {cs : List Value} (h : k13.M w base ok x cs) : cs = [.string x.f0, .int .u64 x.f1] := by
  obtain ⟨_, _, rfl, rfl, rfl⟩ := h
  exact rfl
theorem k13_mk (w : World) (x : S13)  : k13.K w x [.string x.f0, .int .u64 x.f1] := ⟨[.string x.f0], [.int .u64 x.f1], rfl, rfl, rfl⟩
theorem k13_mkM (w : World) (base : Nat) (ok : Nat → Prop) (x : S13)  : k13.M w base ok x [.string x.f0, .int .u64 x.f1] := ⟨[.string x.f0], [.int .u64 x.f1], rfl, rfl, rfl⟩
theorem k13_mkF (W : World) (ok : Nat → Prop) (x : S13) : Kd.FK k13 W ok x [.string x.f0, .int .u64 x.f1] := fun W2 _ => k13_mk W2 x
def rd_T13 (xs : List S13) (i : Int) : S13 := xs.getD i.toNat z13
theorem at_T13 {w : World} {A : Option Addr} {n : Nat} {xs : List S13} (h : Kd.C k13 w A n xs) (i : Int) (h0 : 0 ≤ i) (h1 : i < n) : ∃ ad , A = some ad ∧ w.cell? (ad.add (i.toNat * 2)) = some (.string (rd_T13 xs i).f0) ∧ w.cell? ⟨(ad.add (i.toNat * 2)).block, (ad.add (i.toNat * 2)).off + 1, none⟩ = some (.int .u64 (rd_T13 xs i).f1) := by
  obtain ⟨ad, c, e, _, hK, hc0⟩ := Kd.C_get h z13 i h0 h1
  have hc : ∀ j u, c[j]? = some u → w.cell? (ad.add (i.toNat * 2 + j)) = some u := hc0
  obtain rfl := k13_open hK
  exact ⟨ad, e, hc 0 _ rfl, by rw [← add_field _ _ 1 (by omega)]; exact hc 1 _ rfl⟩

/-! #### struct type 14 -/
structure S14 where
  f0 : ByteArray
  f1 : Int
def z14 : S14 := ⟨(⟨#[]⟩ : ByteArray), (0 : Int)⟩
def k14 : Kd S14 := Kd.iso (Kd.pair Kd.string (Kd.int .u64)) (fun x : S14 => (x.f0, x.f1))
theorem k14_heap : Kd.Heap k14 := Kd.heap_iso _ (Kd.heap_pair Kd.heap_string (Kd.heap_int .u64))
theorem k14_open {w : World} {x : S14} {cs : List Value} (h : k14.K w x cs) : cs = [.string x.f0, .int .u64 x.f1] := by
  obtain ⟨_, _, rfl, rfl, rfl⟩ := h
  exact rfl
theorem k14_openM {w : World} {base : Nat} {ok : Nat → Prop} {x : S14} {cs : List Value} (h : k14.M w base ok x cs) : cs = [.string x.f0, .int .u64 x.f1] := by
  obtain ⟨_, _, rfl, rfl, rfl⟩ := h
  exact rfl
theorem k14_mk (w : World) (x : S14)  : k14.K w x [.string x.f0, .int .u64 x.f1] := ⟨[.string x.f0], [.int .u64 x.f1], rfl, rfl, rfl⟩
theorem k14_mkM (w : World) (base : Nat) (ok : Nat → Prop) (x : S14)  : k14.M w base ok x [.string x.f0, .int .u64 x.f1] := ⟨[.string x.f0], [.int .u64 x.f1], rfl, rfl, rfl⟩
theorem k14_mkF (W : World) (ok : Nat → Prop) (x : S14) : Kd.FK k14 W ok x [.string x.f0, .int .u64 x.f1] := fun W2 _ => k14_mk W2 x
def rd_T14 (xs : List S14) (i : Int) : S14 := xs.getD i.toNat z14
theorem at_T14 {w : World} {A : Option Addr} {n : Nat} {xs : List S14} (h : Kd.C k14 w A n xs) (i : Int) (h0 : 0 ≤ i) (h1 : i < n) : ∃ ad , A = some ad ∧ w.cell? (ad.add (i.toNat * 2)) = some (.string (rd_T14 xs i).f0) ∧ w.cell? ⟨(ad.add (i.toNat * 2)).block, (ad.add (i.toNat * 2)).off + 1, none⟩ = some (.int .u64 (rd_T14 xs i).f1) := by
  obtain ⟨ad, c, e, _, hK, hc0⟩ := Kd.C_get h z14 i h0 h1
  have hc : ∀ j u, c[j]? = some u → w.cell? (ad.add (i.toNat * 2 + j)) = some u := hc0
  obtain rfl := k14_open hK
  exact ⟨ad, e, hc 0 _ rfl, by rw [← add_field _ _ 1 (by omega)]; exact hc 1 _ rfl⟩

/-! #### struct type 25 -/
structure S25 where
  f0 : ByteArray
  f1 : ByteArray
def z25 : S25 := ⟨(⟨#[]⟩ : ByteArray), (⟨#[]⟩ : ByteArray)⟩
def k25 : Kd S25 := Kd.iso (Kd.pair Kd.string Kd.string) (fun x : S25 => (x.f0, x.f1))
theorem k25_heap : Kd.Heap k25 := Kd.heap_iso _ (Kd.heap_pair Kd.heap_string Kd.heap_string)
theorem k25_open {w : World} {x : S25} {cs : List Value} (h : k25.K w x cs) : cs = [.string x.f0, .string x.f1] := by
  obtain ⟨_, _, rfl, rfl, rfl⟩ := h
  exact rfl
theorem k25_openM {w : World} {base : Nat} {ok : Nat → Prop} {x : S25} {cs : List Value} (h : k25.M w base ok x cs) : cs = [.string x.f0, .string x.f1] := by
  obtain ⟨_, _, rfl, rfl, rfl⟩ := h
  exact rfl
theorem k25_mk (w : World) (x : S25)  : k25.K w x [.string x.f0, .string x.f1] := ⟨[.string x.f0], [.string x.f1], rfl, rfl, rfl⟩
theorem k25_mkM (w : World) (base : Nat) (ok : Nat → Prop) (x : S25)  : k25.M w base ok x [.string x.f0, .string x.f1] := ⟨[.string x.f0], [.string x.f1], rfl, rfl, rfl⟩
theorem k25_mkF (W : World) (ok : Nat → Prop) (x : S25) : Kd.FK k25 W ok x [.string x.f0, .string x.f1] := fun W2 _ => k25_mk W2 x
def rd_T25 (xs : List S25) (i : Int) : S25 := xs.getD i.toNat z25
theorem at_T25 {w : World} {A : Option Addr} {n : Nat} {xs : List S25} (h : Kd.C k25 w A n xs) (i : Int) (h0 : 0 ≤ i) (h1 : i < n) : ∃ ad , A = some ad ∧ w.cell? (ad.add (i.toNat * 2)) = some (.string (rd_T25 xs i).f0) ∧ w.cell? ⟨(ad.add (i.toNat * 2)).block, (ad.add (i.toNat * 2)).off + 1, none⟩ = some (.string (rd_T25 xs i).f1) := by
  obtain ⟨ad, c, e, _, hK, hc0⟩ := Kd.C_get h z25 i h0 h1
  have hc : ∀ j u, c[j]? = some u → w.cell? (ad.add (i.toNat * 2 + j)) = some u := hc0
  obtain rfl := k25_open hK
  exact ⟨ad, e, hc 0 _ rfl, by rw [← add_field _ _ 1 (by omega)]; exact hc 1 _ rfl⟩

def rd_LKd_slice_25_k25 (xs : List (List S25)) (i : Int) : (List S25) := xs.getD i.toNat ([] : List S25)
theorem at_LKd_slice_25_k25 {w : World} {A : Option Addr} {n : Nat} {xs : List (List S25)} (h : Kd.C (Kd.slice 25 k25) w A n xs) (i : Int) (h0 : 0 ≤ i) (h1 : i < n) : ∃ ad A0 c0, A = some ad ∧ w.cell? (ad.add i.toNat) = some (.slice A0 (rd_LKd_slice_25_k25 xs i).length c0) ∧ (rd_LKd_slice_25_k25 xs i).length ≤ c0 ∧ k25.C w A0 (rd_LKd_slice_25_k25 xs i).length (rd_LKd_slice_25_k25 xs i) := by
  obtain ⟨ad, c, e, _, hK, hc0⟩ := Kd.C_get h ([] : List S25) i h0 h1
  have hc : ∀ j u, c[j]? = some u → w.cell? (ad.add (i.toNat * 1 + j)) = some u := hc0
  obtain ⟨A0, c0, rfl, l0, g0⟩ := hK
  exact ⟨ad, A0, c0, e, by have hq := hc 0 _ rfl; rwa [Nat.mul_one, Nat.add_zero] at hq, l0, g0⟩

/-! #### struct type 24 -/
structure S24 where
  f0 : ByteArray
  f1 : ByteArray
def z24 : S24 := ⟨(⟨#[]⟩ : ByteArray), (⟨#[]⟩ : ByteArray)⟩
def k24 : Kd S24 := Kd.iso (Kd.pair Kd.string Kd.string) (fun x : S24 => (x.f0, x.f1))
theorem k24_heap : Kd.Heap k24 := Kd.heap_iso _ (Kd.heap_pair Kd.heap_string Kd.heap_string)
theorem k24_open {w : World} {x : S24} {cs : List Value} (h : k24.K w x cs) : cs = [.string x.f0, .string x.f1] := by
  obtain ⟨_, _, rfl, rfl, rfl⟩ := h
  exact rfl
theorem k24_openM {w : World} {base : Nat} {ok : Nat → Prop} {x : S24} {cs : List Value} (h : k24.M w base ok x cs) : cs = [.string x.f0, .string x.f1] := by
  obtain ⟨_, _, rfl, rfl, rfl⟩ := h
  exact rfl
theorem k24_mk (w : World) (x : S24)  : k24.K w x [.string x.f0, .string x.f1] := ⟨[.string x.f0], [.string x.f1], rfl, rfl, rfl⟩
theorem k24_mkM (w : World) (base : Nat) (ok : Nat → Prop) (x : S24)  : k24.M w base ok x [.string x.f0, .string x.f1] := ⟨[.string x.f0], [.string x.f1], rfl, rfl, rfl⟩
theorem k24_mkF (W : World) (ok : Nat → Prop) (x : S24) : Kd.FK k24 W ok x [.string x.f0, .string x.f1] := fun W2 _ => k24_mk W2 x
def rd_T24 (xs : List S24) (i : Int) : S24 := xs.getD i.toNat z24
theorem at_T24 {w : World} {A : Option Addr} {n : Nat} {xs : List S24} (h : Kd.C k24 w A n xs) (i : Int) (h0 : 0 ≤ i) (h1 : i < n) : ∃ ad , A = some ad ∧ w.cell? (ad.add (i.toNat * 2)) = some (.string (rd_T24 xs i).f0) ∧ w.cell? ⟨(ad.add (i.toNat * 2)).block, (ad.add (i.toNat * 2)).off + 1, none⟩ = some (.string (rd_T24 xs i).f1) := by
  obtain ⟨ad, c, e, _, hK, hc0⟩ := Kd.C_get h z24 i h0 h1
  have hc : ∀ j u, c[j]? = some u → w.cell? (ad.add (i.toNat * 2 + j)) = some u := hc0
  obtain rfl := k24_open hK
  exact ⟨ad, e, hc 0 _ rfl, by rw [← add_field _ _ 1 (by omega)]; exact hc 1 _ rfl⟩

def rd_LKd_slice_9_Kd_string (xs : List (List ByteArray)) (i : Int) : (List ByteArray) := xs.getD i.toNat ([] : List ByteArray)
theorem at_LKd_slice_9_Kd_string {w : World} {A : Option Addr} {n : Nat} {xs : List (List ByteArray)} (h : Kd.C (Kd.slice 9 Kd.string) w A n xs) (i : Int) (h0 : 0 ≤ i) (h1 : i < n) : ∃ ad A0 c0, A = some ad ∧ w.cell? (ad.add i.toNat) = some (.slice A0 (rd_LKd_slice_9_Kd_string xs i).length c0) ∧ (rd_LKd_slice_9_Kd_string xs i).length ≤ c0 ∧ Kd.string.C w A0 (rd_LKd_slice_9_Kd_string xs i).length (rd_LKd_slice_9_Kd_string xs i) := by
  obtain ⟨ad, c, e, _, hK, hc0⟩ := Kd.C_get h ([] : List ByteArray) i h0 h1
  have hc : ∀ j u, c[j]? = some u → w.cell? (ad.add (i.toNat * 1 + j)) = some u := hc0
  obtain ⟨A0, c0, rfl, l0, g0⟩ := hK
  exact ⟨ad, A0, c0, e, by have hq := hc 0 _ rfl; rwa [Nat.mul_one, Nat.add_zero] at hq, l0, g0⟩

/-! #### struct type 79 -/
structure S79 where
  f0 : ByteArray
  f1 : (List ByteArray)
def z79 : S79 := ⟨(⟨#[]⟩ : ByteArray), ([] : List ByteArray)⟩
def k79 : Kd S79 := Kd.iso (Kd.pair Kd.string (Kd.slice 9 Kd.string)) (fun x : S79 => (x.f0, x.f1))
theorem k79_heap : Kd.Heap k79 := Kd.heap_iso _ (Kd.heap_pair Kd.heap_string (Kd.heap_slice 9 Kd.heap_string))
theorem k79_open {w : World} {x : S79} {cs : List Value} (h : k79.K w x cs) : ∃ A1 c1, cs = [.string x.f0, .slice A1 x.f1.length c1] ∧ x.f1.length ≤ c1 ∧ Kd.string.C w A1 x.f1.length x.f1 := by
  obtain ⟨_, _, rfl, rfl, ⟨A1, c1, rfl, l1, g1⟩⟩ := h
  exact ⟨A1, c1, rfl, l1, g1⟩
theorem k79_openM {w : World} {base : Nat} {ok : Nat → Prop} {x : S79} {cs : List Value} (h : k79.M w base ok x cs) : ∃ v1, cs = [.string x.f0, v1] ∧ Kd.string.R 9 w base ok v1 x.f1 := by
  obtain ⟨_, _, rfl, rfl, ⟨v1, rfl, g1⟩⟩ := h
  exact ⟨v1, rfl, g1⟩
theorem k79_mk (w : World) (x : S79) {A1 : Option Addr} {c1 : Nat} (l1 : x.f1.length ≤ c1) (g1 : Kd.string.C w A1 x.f1.length x.f1) : k79.K w x [.string x.f0, .slice A1 x.f1.length c1] := ⟨[.string x.f0], [.slice A1 x.f1.length c1], rfl, rfl, ⟨A1, c1, rfl, l1, g1⟩⟩
theorem k79_mkM (w : World) (base : Nat) (ok : Nat → Prop) (x : S79) {v1 : Value} (g1 : Kd.string.R 9 w base ok v1 x.f1) : k79.M w base ok x [.string x.f0, v1] := ⟨[.string x.f0], [v1], rfl, rfl, ⟨v1, rfl, g1⟩⟩
theorem k79_openF {W : World} {ok : Nat → Prop} {x : S79} {cs : List Value} (h : Kd.FK k79 W ok x cs) : ∃ A1 c1, cs = [.string x.f0, .slice A1 x.f1.length c1] ∧ x.f1.length ≤ c1 ∧ Kd.F Kd.string W ok A1 x.f1.length x.f1 := by
  obtain ⟨A1, c1, rfl, l1, _⟩ := k79_open (Kd.FK_now h)
  exact ⟨A1, c1, rfl, l1, (fun W' hW => by obtain ⟨A1_, c1_, he, l1_, g1_⟩ := k79_open (h W' hW); injection (Option.some.inj (show some (Value.slice A1 x.f1.length c1) = some (Value.slice A1_ x.f1.length c1_) from congrArg (fun l => l[1]?) he)) with ha_ _ _; rw [ha_]; exact g1_)⟩
theorem k79_mkF (W : World) (ok : Nat → Prop) (x : S79) {A1 : Option Addr} {c1 : Nat} (l1 : x.f1.length ≤ c1) (g1 : Kd.F Kd.string W ok A1 x.f1.length x.f1) : Kd.FK k79 W ok x [.string x.f0, .slice A1 x.f1.length c1] := fun W2 hW => k79_mk W2 x l1 (g1 W2 hW)
def rd_T79 (xs : List S79) (i : Int) : S79 := xs.getD i.toNat z79
theorem at_T79 {w : World} {A : Option Addr} {n : Nat} {xs : List S79} (h : Kd.C k79 w A n xs) (i : Int) (h0 : 0 ≤ i) (h1 : i < n) : ∃ ad A1 c1, A = some ad ∧ w.cell? (ad.add (i.toNat * 2)) = some (.string (rd_T79 xs i).f0) ∧ w.cell? ⟨(ad.add (i.toNat * 2)).block, (ad.add (i.toNat * 2)).off + 1, none⟩ = some (.slice A1 (rd_T79 xs i).f1.length c1) ∧ (rd_T79 xs i).f1.length ≤ c1 ∧ Kd.string.C w A1 (rd_T79 xs i).f1.length (rd_T79 xs i).f1 := by
  obtain ⟨ad, c, e, _, hK, hc0⟩ := Kd.C_get h z79 i h0 h1
  have hc : ∀ j u, c[j]? = some u → w.cell? (ad.add (i.toNat * 2 + j)) = some u := hc0
  obtain ⟨A1, c1, rfl, l1, g1⟩ := k79_open hK
  exact ⟨ad, A1, c1, e, hc 0 _ rfl, by rw [← add_field _ _ 1 (by omega)]; exact hc 1 _ rfl, l1, g1⟩

def rd_LKd_slice_79_k79 (xs : List (List S79)) (i : Int) : (List S79) := xs.getD i.toNat ([] : List S79)
theorem at_LKd_slice_79_k79 {w : World} {A : Option Addr} {n : Nat} {xs : List (List S79)} (h : Kd.C (Kd.slice 79 k79) w A n xs) (i : Int) (h0 : 0 ≤ i) (h1 : i < n) : ∃ ad A0 c0, A = some ad ∧ w.cell? (ad.add i.toNat) = some (.slice A0 (rd_LKd_slice_79_k79 xs i).length c0) ∧ (rd_LKd_slice_79_k79 xs i).length ≤ c0 ∧ k79.C w A0 (rd_LKd_slice_79_k79 xs i).length (rd_LKd_slice_79_k79 xs i) := by
  obtain ⟨ad, c, e, _, hK, hc0⟩ := Kd.C_get h ([] : List S79) i h0 h1
  have hc : ∀ j u, c[j]? = some u → w.cell? (ad.add (i.toNat * 1 + j)) = some u := hc0
  obtain ⟨A0, c0, rfl, l0, g0⟩ := hK
  exact ⟨ad, A0, c0, e, by have hq := hc 0 _ rfl; rwa [Nat.mul_one, Nat.add_zero] at hq, l0, g0⟩

def rd_LKd_slice_33_Kd_slice_79_k79 (xs : List (List (List S79))) (i : Int) : (List (List S79)) := xs.getD i.toNat ([] : List (List S79))
theorem at_LKd_slice_33_Kd_slice_79_k79 {w : World} {A : Option Addr} {n : Nat} {xs : List (List (List S79))} (h : Kd.C (Kd.slice 33 (Kd.slice 79 k79)) w A n xs) (i : Int) (h0 : 0 ≤ i) (h1 : i < n) : ∃ ad A0 c0, A = some ad ∧ w.cell? (ad.add i.toNat) = some (.slice A0 (rd_LKd_slice_33_Kd_slice_79_k79 xs i).length c0) ∧ (rd_LKd_slice_33_Kd_slice_79_k79 xs i).length ≤ c0 ∧ (Kd.slice 79 k79).C w A0 (rd_LKd_slice_33_Kd_slice_79_k79 xs i).length (rd_LKd_slice_33_Kd_slice_79_k79 xs i) := by
  obtain ⟨ad, c, e, _, hK, hc0⟩ := Kd.C_get h ([] : List (List S79)) i h0 h1
  have hc : ∀ j u, c[j]? = some u → w.cell? (ad.add (i.toNat * 1 + j)) = some u := hc0
  obtain ⟨A0, c0, rfl, l0, g0⟩ := hK
  exact ⟨ad, A0, c0, e, by have hq := hc 0 _ rfl; rwa [Nat.mul_one, Nat.add_zero] at hq, l0, g0⟩

/-! #### struct type 77 -/
structure S77 where
  f0 : ByteArray
  f1 : (List ByteArray)
def z77 : S77 := ⟨(⟨#[]⟩ : ByteArray), ([] : List ByteArray)⟩
def k77 : Kd S77 := Kd.iso (Kd.pair Kd.string (Kd.slice 9 Kd.string)) (fun x : S77 => (x.f0, x.f1))
theorem k77_heap : Kd.Heap k77 := Kd.heap_iso _ (Kd.heap_pair Kd.heap_string (Kd.heap_slice 9 Kd.heap_string))
theorem k77_open {w : World} {x : S77} {cs : List Value} (h : k77.K w x cs) : ∃ A1 c1, cs = [.string x.f0, .slice A1 x.f1.length c1] ∧ x.f1.length ≤ c1 ∧ Kd.string.C w A1 x.f1.length x.f1 := by
  obtain ⟨_, _, rfl, rfl, ⟨A1, c1, rfl, l1, g1⟩⟩ := h
  exact ⟨A1, c1, rfl, l1, g1⟩
theorem k77_openM {w : World} {base : Nat} {ok : Nat → Prop} {x : S77} {cs : List Value} (h : k77.M w base ok x cs) : ∃ v1, cs = [.string x.f0, v1] ∧ Kd.string.R 9 w base ok v1 x.f1 := by
  obtain ⟨_, _, rfl, rfl, ⟨v1, rfl, g1⟩⟩ := h
  exact ⟨v1, rfl, g1⟩
theorem k77_mk (w : World) (x : S77) {A1 : Option Addr} {c1 : Nat} (l1 : x.f1.length ≤ c1) (g1 : Kd.string.C w A1 x.f1.length x.f1) : k77.K w x [.string x.f0, .slice A1 x.f1.length c1] := ⟨[.string x.f0], [.slice A1 x.f1.length c1], rfl, rfl, ⟨A1, c1, rfl, l1, g1⟩⟩
theorem k77_mkM (w : World) (base : Nat) (ok : Nat → Prop) (x : S77) {v1 : Value} (g1 : Kd.string.R 9 w base ok v1 x.f1) : k77.M w base ok x [.string x.f0, v1] := ⟨[.string x.f0], [v1], rfl, rfl, ⟨v1, rfl, g1⟩⟩
theorem k77_openF {W : World} {ok : Nat → Prop} {x : S77} {cs : List Value} (h : Kd.FK k77 W ok x cs) : ∃ A1 c1, cs = [.string x.f0, .slice A1 x.f1.length c1] ∧ x.f1.length ≤ c1 ∧ Kd.F Kd.string W ok A1 x.f1.length x.f1 := by
  obtain ⟨A1, c1, rfl, l1, _⟩ := k77_open (Kd.FK_now h)
  exact ⟨A1, c1, rfl, l1, (fun W' hW => by obtain ⟨A1_, c1_, he, l1_, g1_⟩ := k77_open (h W' hW); injection (Option.some.inj (show some (Value.slice A1 x.f1.length c1) = some (Value.slice A1_ x.f1.length c1_) from congrArg (fun l => l[1]?) he)) with ha_ _ _; rw [ha_]; exact g1_)⟩
theorem k77_mkF (W : World) (ok : Nat → Prop) (x : S77) {A1 : Option Addr} {c1 : Nat} (l1 : x.f1.length ≤ c1) (g1 : Kd.F Kd.string W ok A1 x.f1.length x.f1) : Kd.FK k77 W ok x [.string x.f0, .slice A1 x.f1.length c1] := fun W2 hW => k77_mk W2 x l1 (g1 W2 hW)
def rd_T77 (xs : List S77) (i : Int) : S77 := xs.getD i.toNat z77
theorem at_T77 {w : World} {A : Option Addr} {n : Nat} {xs : List S77} (h : Kd.C k77 w A n xs) (i : Int) (h0 : 0 ≤ i) (h1 : i < n) : ∃ ad A1 c1, A = some ad ∧ w.cell? (ad.add (i.toNat * 2)) = some (.string (rd_T77 xs i).f0) ∧ w.cell? ⟨(ad.add (i.toNat * 2)).block, (ad.add (i.toNat * 2)).off + 1, none⟩ = some (.slice A1 (rd_T77 xs i).f1.length c1) ∧ (rd_T77 xs i).f1.length ≤ c1 ∧ Kd.string.C w A1 (rd_T77 xs i).f1.length (rd_T77 xs i).f1 := by
  obtain ⟨ad, c, e, _, hK, hc0⟩ := Kd.C_get h z77 i h0 h1
  have hc : ∀ j u, c[j]? = some u → w.cell? (ad.add (i.toNat * 2 + j)) = some u := hc0
  obtain ⟨A1, c1, rfl, l1, g1⟩ := k77_open hK
  exact ⟨ad, A1, c1, e, hc 0 _ rfl, by rw [← add_field _ _ 1 (by omega)]; exact hc 1 _ rfl, l1, g1⟩

def rd_LKd_slice_77_k77 (xs : List (List S77)) (i : Int) : (List S77) := xs.getD i.toNat ([] : List S77)
theorem at_LKd_slice_77_k77 {w : World} {A : Option Addr} {n : Nat} {xs : List (List S77)} (h : Kd.C (Kd.slice 77 k77) w A n xs) (i : Int) (h0 : 0 ≤ i) (h1 : i < n) : ∃ ad A0 c0, A = some ad ∧ w.cell? (ad.add i.toNat) = some (.slice A0 (rd_LKd_slice_77_k77 xs i).length c0) ∧ (rd_LKd_slice_77_k77 xs i).length ≤ c0 ∧ k77.C w A0 (rd_LKd_slice_77_k77 xs i).length (rd_LKd_slice_77_k77 xs i) := by
  obtain ⟨ad, c, e, _, hK, hc0⟩ := Kd.C_get h ([] : List S77) i h0 h1
  have hc : ∀ j u, c[j]? = some u → w.cell? (ad.add (i.toNat * 1 + j)) = some u := hc0
  obtain ⟨A0, c0, rfl, l0, g0⟩ := hK
  exact ⟨ad, A0, c0, e, by have hq := hc 0 _ rfl; rwa [Nat.mul_one, Nat.add_zero] at hq, l0, g0⟩

def rd_LKd_slice_31_Kd_slice_77_k77 (xs : List (List (List S77))) (i : Int) : (List (List S77)) := xs.getD i.toNat ([] : List (List S77))
theorem at_LKd_slice_31_Kd_slice_77_k77 {w : World} {A : Option Addr} {n : Nat} {xs : List (List (List S77))} (h : Kd.C (Kd.slice 31 (Kd.slice 77 k77)) w A n xs) (i : Int) (h0 : 0 ≤ i) (h1 : i < n) : ∃ ad A0 c0, A = some ad ∧ w.cell? (ad.add i.toNat) = some (.slice A0 (rd_LKd_slice_31_Kd_slice_77_k77 xs i).length c0) ∧ (rd_LKd_slice_31_Kd_slice_77_k77 xs i).length ≤ c0 ∧ (Kd.slice 77 k77).C w A0 (rd_LKd_slice_31_Kd_slice_77_k77 xs i).length (rd_LKd_slice_31_Kd_slice_77_k77 xs i) := by
  obtain ⟨ad, c, e, _, hK, hc0⟩ := Kd.C_get h ([] : List (List S77)) i h0 h1
  have hc : ∀ j u, c[j]? = some u → w.cell? (ad.add (i.toNat * 1 + j)) = some u := hc0
  obtain ⟨A0, c0, rfl, l0, g0⟩ := hK
  exact ⟨ad, A0, c0, e, by have hq := hc 0 _ rfl; rwa [Nat.mul_one, Nat.add_zero] at hq, l0, g0⟩

/-! #### struct type 40 -/
structure S40 where
  f0 : ByteArray
  f1 : ByteArray
  f2 : ByteArray
  f3 : (List ByteArray)
  f4 : Bool
def z40 : S40 := ⟨(⟨#[]⟩ : ByteArray), (⟨#[]⟩ : ByteArray), (⟨#[]⟩ : ByteArray), ([] : List ByteArray), false⟩
def k40 : Kd S40 := Kd.iso (Kd.pair Kd.string (Kd.pair Kd.string (Kd.pair Kd.string (Kd.pair (Kd.slice 9 Kd.string) Kd.bool)))) (fun x : S40 => (x.f0, x.f1, x.f2, x.f3, x.f4))
theorem k40_heap : Kd.Heap k40 := Kd.heap_iso _ (Kd.heap_pair Kd.heap_string (Kd.heap_pair Kd.heap_string (Kd.heap_pair Kd.heap_string (Kd.heap_pair (Kd.heap_slice 9 Kd.heap_string) Kd.heap_bool))))
theorem k40_open {w : World} {x : S40} {cs : List Value} (h : k40.K w x cs) : ∃ A3 c3, cs = [.string x.f0, .string x.f1, .string x.f2, .slice A3 x.f3.length c3, .bool x.f4] ∧ x.f3.length ≤ c3 ∧ Kd.string.C w A3 x.f3.length x.f3 := by
  obtain ⟨_, _, rfl, rfl, ⟨_, _, rfl, rfl, ⟨_, _, rfl, rfl, ⟨_, _, rfl, ⟨A3, c3, rfl, l3, g3⟩, rfl⟩⟩⟩⟩ := h
  exact ⟨A3, c3, rfl, l3, g3⟩
theorem k40_openM {w : World} {base : Nat} {ok : Nat → Prop} {x : S40} {cs : List Value} (h : k40.M w base ok x cs) : ∃ v3, cs = [.string x.f0, .string x.f1, .string x.f2, v3, .bool x.f4] ∧ Kd.string.R 9 w base ok v3 x.f3 := by
  obtain ⟨_, _, rfl, rfl, ⟨_, _, rfl, rfl, ⟨_, _, rfl, rfl, ⟨_, _, rfl, ⟨v3, rfl, g3⟩, rfl⟩⟩⟩⟩ := h
  exact ⟨v3, rfl, g3⟩
theorem k40_mk (w : World) (x : S40) {A3 : Option Addr} {c3 : Nat} (l3 : x.f3.length ≤ c3) (g3 : Kd.string.C w A3 x.f3.length x.f3) : k40.K w x [.string x.f0, .string x.f1, .string x.f2, .slice A3 x.f3.length c3, .bool x.f4] := ⟨[.string x.f0], [.string x.f1, .string x.f2, .slice A3 x.f3.length c3, .bool x.f4], rfl, rfl, ⟨[.string x.f1], [.string x.f2, .slice A3 x.f3.length c3, .bool x.f4], rfl, rfl, ⟨[.string x.f2], [.slice A3 x.f3.length c3, .bool x.f4], rfl, rfl, ⟨[.slice A3 x.f3.length c3], [.bool x.f4], rfl, ⟨A3, c3, rfl, l3, g3⟩, rfl⟩⟩⟩⟩
theorem k40_mkM (w : World) (base : Nat) (ok : Nat → Prop) (x : S40) {v3 : Value} (g3 : Kd.string.R 9 w base ok v3 x.f3) : k40.M w base ok x [.string x.f0, .string x.f1, .string x.f2, v3, .bool x.f4] := ⟨[.string x.f0], [.string x.f1, .string x.f2, v3, .bool x.f4], rfl, rfl, ⟨[.string x.f1], [.string x.f2, v3, .bool x.f4], rfl, rfl, ⟨[.string x.f2], [v3, .bool x.f4], rfl, rfl, ⟨[v3], [.bool x.f4], rfl, ⟨v3, rfl, g3⟩, rfl⟩⟩⟩⟩
theorem k40_openF {W : World} {ok : Nat → Prop} {x : S40} {cs : List Value} (h : Kd.FK k40 W ok x cs) : ∃ A3 c3, cs = [.string x.f0, .string x.f1, .string x.f2, .slice A3 x.f3.length c3, .bool x.f4] ∧ x.f3.length ≤ c3 ∧ Kd.F Kd.string W ok A3 x.f3.length x.f3 := by
  obtain ⟨A3, c3, rfl, l3, _⟩ := k40_open (Kd.FK_now h)
  exact ⟨A3, c3, rfl, l3, (fun W' hW => by obtain ⟨A3_, c3_, he, l3_, g3_⟩ := k40_open (h W' hW); injection (Option.some.inj (show some (Value.slice A3 x.f3.length c3) = some (Value.slice A3_ x.f3.length c3_) from congrArg (fun l => l[3]?) he)) with ha_ _ _; rw [ha_]; exact g3_)⟩
theorem k40_mkF (W : World) (ok : Nat → Prop) (x : S40) {A3 : Option Addr} {c3 : Nat} (l3 : x.f3.length ≤ c3) (g3 : Kd.F Kd.string W ok A3 x.f3.length x.f3) : Kd.FK k40 W ok x [.string x.f0, .string x.f1, .string x.f2, .slice A3 x.f3.length c3, .bool x.f4] := fun W2 hW => k40_mk W2 x l3 (g3 W2 hW)
def rd_T40 (xs : List S40) (i : Int) : S40 := xs.getD i.toNat z40
theorem at_T40 {w : World} {A : Option Addr} {n : Nat} {xs : List S40} (h : Kd.C k40 w A n xs) (i : Int) (h0 : 0 ≤ i) (h1 : i < n) : ∃ ad A3 c3, A = some ad ∧ w.cell? (ad.add (i.toNat * 5)) = some (.string (rd_T40 xs i).f0) ∧ w.cell? ⟨(ad.add (i.toNat * 5)).block, (ad.add (i.toNat * 5)).off + 1, none⟩ = some (.string (rd_T40 xs i).f1) ∧ w.cell? ⟨(ad.add (i.toNat * 5)).block, (ad.add (i.toNat * 5)).off + 2, none⟩ = some (.string (rd_T40 xs i).f2) ∧ w.cell? ⟨(ad.add (i.toNat * 5)).block, (ad.add (i.toNat * 5)).off + 3, none⟩ = some (.slice A3 (rd_T40 xs i).f3.length c3) ∧ w.cell? ⟨(ad.add (i.toNat * 5)).block, (ad.add (i.toNat * 5)).off + 4, none⟩ = some (.bool (rd_T40 xs i).f4) ∧ (rd_T40 xs i).f3.length ≤ c3 ∧ Kd.string.C w A3 (rd_T40 xs i).f3.length (rd_T40 xs i).f3 := by
  obtain ⟨ad, c, e, _, hK, hc0⟩ := Kd.C_get h z40 i h0 h1
  have hc : ∀ j u, c[j]? = some u → w.cell? (ad.add (i.toNat * 5 + j)) = some u := hc0
  obtain ⟨A3, c3, rfl, l3, g3⟩ := k40_open hK
  exact ⟨ad, A3, c3, e, hc 0 _ rfl, by rw [← add_field _ _ 1 (by omega)]; exact hc 1 _ rfl, by rw [← add_field _ _ 2 (by omega)]; exact hc 2 _ rfl, by rw [← add_field _ _ 3 (by omega)]; exact hc 3 _ rfl, by rw [← add_field _ _ 4 (by omega)]; exact hc 4 _ rfl, l3, g3⟩

/-! #### struct type 41 -/
structure S41 where
  f0 : ByteArray
  f1 : ByteArray
  f2 : ByteArray
  f3 : (List ByteArray)
  f4 : Bool
def z41 : S41 := ⟨(⟨#[]⟩ : ByteArray), (⟨#[]⟩ : ByteArray), (⟨#[]⟩ : ByteArray), ([] : List ByteArray), false⟩
def k41 : Kd S41 := Kd.iso (Kd.pair Kd.string (Kd.pair Kd.string (Kd.pair Kd.string (Kd.pair (Kd.slice 9 Kd.string) Kd.bool)))) (fun x : S41 => (x.f0, x.f1, x.f2, x.f3, x.f4))
theorem k41_heap : Kd.Heap k41 := Kd.heap_iso _ (Kd.heap_pair Kd.heap_string (Kd.heap_pair Kd.heap_string (Kd.heap_pair Kd.heap_string (Kd.heap_pair (Kd.heap_slice 9 Kd.heap_string) Kd.heap_bool))))
theorem k41_open {w : World} {x : S41} {cs : List Value} (h : k41.K w x cs) : ∃ A3 c3, cs = [.string x.f0, .string x.f1, .string x.f2, .slice A3 x.f3.length c3, .bool x.f4] ∧ x.f3.length ≤ c3 ∧ Kd.string.C w A3 x.f3.length x.f3 := by
  obtain ⟨_, _, rfl, rfl, ⟨_, _, rfl, rfl, ⟨_, _, rfl, rfl, ⟨_, _, rfl, ⟨A3, c3, rfl, l3, g3⟩, rfl⟩⟩⟩⟩ := h
  exact ⟨A3, c3, rfl, l3, g3⟩
theorem k41_openM {w : World} {base : Nat} {ok : Nat → Prop} {x : S41} {cs : List Value} (h : k41.M w base ok x cs) : ∃ v3, cs = [.string x.f0, .string x.f1, .string x.f2, v3, .bool x.f4] ∧ Kd.string.R 9 w base ok v3 x.f3 := by
  obtain ⟨_, _, rfl, rfl, ⟨_, _, rfl, rfl, ⟨_, _, rfl, rfl, ⟨_, _, rfl, ⟨v3, rfl, g3⟩, rfl⟩⟩⟩⟩ := h
  exact ⟨v3, rfl, g3⟩
theorem k41_mk (w : World) (x : S41) {A3 : Option Addr} {c3 : Nat} (l3 : x.f3.length ≤ c3) (g3 : Kd.string.C w A3 x.f3.length x.f3) : k41.K w x [.string x.f0, .string x.f1, .string x.f2, .slice A3 x.f3.length c3, .bool x.f4] := ⟨[.string x.f0], [.string x.f1, .string x.f2, .slice A3 x.f3.length c3, .bool x.f4], rfl, rfl, ⟨[.string x.f1], [.string x.f2, .slice A3 x.f3.length c3, .bool x.f4], rfl, rfl, ⟨[.string x.f2], [.slice A3 x.f3.length c3, .bool x.f4], rfl, rfl, ⟨[.slice A3 x.f3.length c3], [.bool x.f4], rfl, ⟨A3, c3, rfl, l3, g3⟩, rfl⟩⟩⟩⟩
theorem k41_mkM (w : World) (base : Nat) (ok : Nat → Prop) (x : S41) {v3 : Value} (g3 : Kd.string.R 9 w base ok v3 x.f3) : k41.M w base ok x [.string x.f0, .string x.f1, .string x.f2, v3, .bool x.f4] := ⟨[.string x.f0], [.string x.f1, .string x.f2, v3, .bool x.f4], rfl, rfl, ⟨[.string x.f1], [.string x.f2, v3, .bool x.f4], rfl, rfl, ⟨[.string x.f2], [v3, .bool x.f4], rfl, rfl, ⟨[v3], [.bool x.f4], rfl, ⟨v3, rfl, g3⟩, rfl⟩⟩⟩⟩
theorem k41_openF {W : World} {ok : Nat → Prop} {x : S41} {cs : List Value} (h : Kd.FK k41 W ok x cs) : ∃ A3 c3, cs = [.string x.f0, .string x.f1, .string x.f2, .slice A3 x.f3.length c3, .bool x.f4] ∧ x.f3.length ≤ c3 ∧ Kd.F Kd.string W ok A3 x.f3.length x.f3 := by
  obtain ⟨A3, c3, rfl, l3, _⟩ := k41_open (Kd.FK_now h)
  exact ⟨A3, c3, rfl, l3, (fun W' hW => by obtain ⟨A3_, c3_, he, l3_, g3_⟩ := k41_open (h W' hW); injection (Option.some.inj (show some (Value.slice A3 x.f3.length c3) = some (Value.slice A3_ x.f3.length c3_) from congrArg (fun l => l[3]?) he)) with ha_ _ _; rw [ha_]; exact g3_)⟩
theorem k41_mkF (W : World) (ok : Nat → Prop) (x : S41) {A3 : Option Addr} {c3 : Nat} (l3 : x.f3.length ≤ c3) (g3 : Kd.F Kd.string W ok A3 x.f3.length x.f3) : Kd.FK k41 W ok x [.string x.f0, .string x.f1, .string x.f2, .slice A3 x.f3.length c3, .bool x.f4] := fun W2 hW => k41_mk W2 x l3 (g3 W2 hW)
def rd_T41 (xs : List S41) (i : Int) : S41 := xs.getD i.toNat z41
theorem at_T41 {w : World} {A : Option Addr} {n : Nat} {xs : List S41} (h : Kd.C k41 w A n xs) (i : Int) (h0 : 0 ≤ i) (h1 : i < n) : ∃ ad A3 c3, A = some ad ∧ w.cell? (ad.add (i.toNat * 5)) = some (.string (rd_T41 xs i).f0) ∧ w.cell? ⟨(ad.add (i.toNat * 5)).block, (ad.add (i.toNat * 5)).off + 1, none⟩ = some (.string (rd_T41 xs i).f1) ∧ w.cell? ⟨(ad.add (i.toNat * 5)).block, (ad.add (i.toNat * 5)).off + 2, none⟩ = some (.string (rd_T41 xs i).f2) ∧ w.cell? ⟨(ad.add (i.toNat * 5)).block, (ad.add (i.toNat * 5)).off + 3, none⟩ = some (.slice A3 (rd_T41 xs i).f3.length c3) ∧ w.cell? ⟨(ad.add (i.toNat * 5)).block, (ad.add (i.toNat * 5)).off + 4, none⟩ = some (.bool (rd_T41 xs i).f4) ∧ (rd_T41 xs i).f3.length ≤ c3 ∧ Kd.string.C w A3 (rd_T41 xs i).f3.length (rd_T41 xs i).f3 := by
  obtain ⟨ad, c, e, _, hK, hc0⟩ := Kd.C_get h z41 i h0 h1
  have hc : ∀ j u, c[j]? = some u → w.cell? (ad.add (i.toNat * 5 + j)) = some u := hc0
  obtain ⟨A3, c3, rfl, l3, g3⟩ := k41_open hK
  exact ⟨ad, A3, c3, e, hc 0 _ rfl, by rw [← add_field _ _ 1 (by omega)]; exact hc 1 _ rfl, by rw [← add_field _ _ 2 (by omega)]; exact hc 2 _ rfl, by rw [← add_field _ _ 3 (by omega)]; exact hc 3 _ rfl, by rw [← add_field _ _ 4 (by omega)]; exact hc 4 _ rfl, l3, g3⟩

/-! #### struct type 42 -/
structure S42 where
  f0 : ByteArray
  f1 : ByteArray
  f2 : Int
def z42 : S42 := ⟨(⟨#[]⟩ : ByteArray), (⟨#[]⟩ : ByteArray), (0 : Int)⟩
def k42 : Kd S42 := Kd.iso (Kd.pair Kd.string (Kd.pair Kd.string (Kd.int .i64))) (fun x : S42 => (x.f0, x.f1, x.f2))
theorem k42_heap : Kd.Heap k42 := Kd.heap_iso _ (Kd.heap_pair Kd.heap_string (Kd.heap_pair Kd.heap_string (Kd.heap_int .i64)))
theorem k42_open {w : World} {x : S42} {cs : List Value} (h : k42.K w x cs) : cs = [.string x.f0, .string x.f1, .int .i64 x.f2] := by
  obtain ⟨_, _, rfl, rfl, ⟨_, _, rfl, rfl, rfl⟩⟩ := h
  exact rfl
theorem k42_openM {w : World} {base : Nat} {ok : Nat → Prop} {x : S42} {cs : List Value} (h : k42.M w base ok x cs) : cs = [.string x.f0, .string x.f1, .int .i64 x.f2] := by
  obtain ⟨_, _, rfl, rfl, ⟨_, _, rfl, rfl, rfl⟩⟩ := h
  exact rfl
theorem k42_mk (w : World) (x : S42)  : k42.K w x [.string x.f0, .string x.f1, .int .i64 x.f2] := ⟨[.string x.f0], [.string x.f1, .int .i64 x.f2], rfl, rfl, ⟨[.string x.f1], [.int .i64 x.f2], rfl, rfl, rfl⟩⟩
theorem k42_mkM (w : World) (base : Nat) (ok : Nat → Prop) (x : S42)  : k42.M w base ok x [.string x.f0, .string x.f1, .int .i64 x.f2] := ⟨[.string x.f0], [.string x.f1, .int .i64 x.f2], rfl, rfl, ⟨[.string x.f1], [.int .i64 x.f2], rfl, rfl, rfl⟩⟩
theorem k42_mkF (W : World) (ok : Nat → Prop) (x : S42) : Kd.FK k42 W ok x [.string x.f0, .string x.f1, .int .i64 x.f2] := fun W2 _ => k42_mk W2 x
def rd_T42 (xs : List S42) (i : Int) : S42 := xs.getD i.toNat z42
theorem at_T42 {w : World} {A : Option Addr} {n : Nat} {xs : List S42} (h : Kd.C k42 w A n xs) (i : Int) (h0 : 0 ≤ i) (h1 : i < n) : ∃ ad , A = some ad ∧ w.cell? (ad.add (i.toNat * 3)) = some (.string (rd_T42 xs i).f0) ∧ w.cell? ⟨(ad.add (i.toNat * 3)).block, (ad.add (i.toNat * 3)).off + 1, none⟩ = some (.string (rd_T42 xs i).f1) ∧ w.cell? ⟨(ad.add (i.toNat * 3)).block, (ad.add (i.toNat * 3)).off + 2, none⟩ = some (.int .i64 (rd_T42 xs i).f2) := by
  obtain ⟨ad, c, e, _, hK, hc0⟩ := Kd.C_get h z42 i h0 h1
  have hc : ∀ j u, c[j]? = some u → w.cell? (ad.add (i.toNat * 3 + j)) = some u := hc0
  obtain rfl := k42_open hK
  exact ⟨ad, e, hc 0 _ rfl, by rw [← add_field _ _ 1 (by omega)]; exact hc 1 _ rfl, by rw [← add_field _ _ 2 (by omega)]; exact hc 2 _ rfl⟩

/-! #### struct type 43 -/
structure S43 where
  f0 : ByteArray
  f1 : ByteArray
  f2 : Int
def z43 : S43 := ⟨(⟨#[]⟩ : ByteArray), (⟨#[]⟩ : ByteArray), (0 : Int)⟩
def k43 : Kd S43 := Kd.iso (Kd.pair Kd.string (Kd.pair Kd.string (Kd.int .i64))) (fun x : S43 => (x.f0, x.f1, x.f2))
theorem k43_heap : Kd.Heap k43 := Kd.heap_iso _ (Kd.heap_pair Kd.heap_string (Kd.heap_pair Kd.heap_string (Kd.heap_int .i64)))
theorem k43_open {w : World} {x : S43} {cs : List Value} (h : k43.K w x cs) : cs = [.string x.f0, .string x.f1, .int .i64 x.f2] := by
  obtain ⟨_, _, rfl, rfl, ⟨_, _, rfl, rfl, rfl⟩⟩ := h
  exact rfl
theorem k43_openM {w : World} {base : Nat} {ok : Nat → Prop} {x : S43} {cs : List Value} (h : k43.M w base ok x cs) : cs = [.string x.f0, .string x.f1, .int .i64 x.f2] := by
  obtain ⟨_, _, rfl, rfl, ⟨_, _, rfl, rfl, rfl⟩⟩ := h
  exact rfl
theorem k43_mk (w : World) (x : S43)  : k43.K w x [.string x.f0, .string x.f1, .int .i64 x.f2] := ⟨[.string x.f0], [.string x.f1, .int .i64 x.f2], rfl, rfl, ⟨[.string x.f1], [.int .i64 x.f2], rfl, rfl, rfl⟩⟩
theorem k43_mkM (w : World) (base : Nat) (ok : Nat → Prop) (x : S43)  : k43.M w base ok x [.string x.f0, .string x.f1, .int .i64 x.f2] := ⟨[.string x.f0], [.string x.f1, .int .i64 x.f2], rfl, rfl, ⟨[.string x.f1], [.int .i64 x.f2], rfl, rfl, rfl⟩⟩
theorem k43_mkF (W : World) (ok : Nat → Prop) (x : S43) : Kd.FK k43 W ok x [.string x.f0, .string x.f1, .int .i64 x.f2] := fun W2 _ => k43_mk W2 x
def rd_T43 (xs : List S43) (i : Int) : S43 := xs.getD i.toNat z43
theorem at_T43 {w : World} {A : Option Addr} {n : Nat} {xs : List S43} (h : Kd.C k43 w A n xs) (i : Int) (h0 : 0 ≤ i) (h1 : i < n) : ∃ ad , A = some ad ∧ w.cell? (ad.add (i.toNat * 3)) = some (.string (rd_T43 xs i).f0) ∧ w.cell? ⟨(ad.add (i.toNat * 3)).block, (ad.add (i.toNat * 3)).off + 1, none⟩ = some (.string (rd_T43 xs i).f1) ∧ w.cell? ⟨(ad.add (i.toNat * 3)).block, (ad.add (i.toNat * 3)).off + 2, none⟩ = some (.int .i64 (rd_T43 xs i).f2) := by
  obtain ⟨ad, c, e, _, hK, hc0⟩ := Kd.C_get h z43 i h0 h1
  have hc : ∀ j u, c[j]? = some u → w.cell? (ad.add (i.toNat * 3 + j)) = some u := hc0
  obtain rfl := k43_open hK
  exact ⟨ad, e, hc 0 _ rfl, by rw [← add_field _ _ 1 (by omega)]; exact hc 1 _ rfl, by rw [← add_field _ _ 2 (by omega)]; exact hc 2 _ rfl⟩

/-! #### struct type 44 -/
structure S44 where
  f0 : ByteArray
  f1 : ByteArray
  f2 : Int
  f3 : ByteArray
  f4 : ByteArray
def z44 : S44 := ⟨(⟨#[]⟩ : ByteArray), (⟨#[]⟩ : ByteArray), (0 : Int), (⟨#[]⟩ : ByteArray), (⟨#[]⟩ : ByteArray)⟩
def k44 : Kd S44 := Kd.iso (Kd.pair Kd.string (Kd.pair Kd.string (Kd.pair (Kd.int .i64) (Kd.pair Kd.string Kd.string)))) (fun x : S44 => (x.f0, x.f1, x.f2, x.f3, x.f4))
theorem k44_heap : Kd.Heap k44 := Kd.heap_iso _ (Kd.heap_pair Kd.heap_string (Kd.heap_pair Kd.heap_string (Kd.heap_pair (Kd.heap_int .i64) (Kd.heap_pair Kd.heap_string Kd.heap_string))))
theorem k44_open {w : World} {x : S44} {cs : List Value} (h : k44.K w x cs) : cs = [.string x.f0, .string x.f1, .int .i64 x.f2, .string x.f3, .string x.f4] := by
  obtain ⟨_, _, rfl, rfl, ⟨_, _, rfl, rfl, ⟨_, _, rfl, rfl, ⟨_, _, rfl, rfl, rfl⟩⟩⟩⟩ := h
  exact rfl
theorem k44_openM {w : World} {base : Nat} {ok : Nat → Prop} {x : S44} {cs : List Value} (h : k44.M w base ok x cs) : cs = [.string x.f0, .string x.f1, .int .i64 x.f2, .string x.f3, .string x.f4] := by
  obtain ⟨_, _, rfl, rfl, ⟨_, _, rfl, rfl, ⟨_, _, rfl, rfl, ⟨_, _, rfl, rfl, rfl⟩⟩⟩⟩ := h
  exact rfl
theorem k44_mk (w : World) (x : S44)  : k44.K w x [.string x.f0, .string x.f1, .int .i64 x.f2, .string x.f3, .string x.f4] := ⟨[.string x.f0], [.string x.f1, .int .i64 x.f2, .string x.f3, .string x.f4], rfl, rfl, ⟨[.string x.f1], [.int .i64 x.f2, .string x.f3, .string x.f4], rfl, rfl, ⟨[.int .i64 x.f2], [.string x.f3, .string x.f4], rfl, rfl, ⟨[.string x.f3], [.string x.f4], rfl, rfl, rfl⟩⟩⟩⟩
theorem k44_mkM (w : World) (base : Nat) (ok : Nat → Prop) (x : S44)  : k44.M w base ok x [.string x.f0, .string x.f1, .int .i64 x.f2, .string x.f3, .string x.f4] := ⟨[.string x.f0], [.string x.f1, .int .i64 x.f2, .string x.f3, .string x.f4], rfl, rfl, ⟨[.string x.f1], [.int .i64 x.f2, .string x.f3, .string x.f4], rfl, rfl, ⟨[.int .i64 x.f2], [.string x.f3, .string x.f4], rfl, rfl, ⟨[.string x.f3], [.string x.f4], rfl, rfl, rfl⟩⟩⟩⟩
theorem k44_mkF (W : World) (ok : Nat → Prop) (x : S44) : Kd.FK k44 W ok x [.string x.f0, .string x.f1, .int .i64 x.f2, .string x.f3, .string x.f4] := fun W2 _ => k44_mk W2 x
def rd_T44 (xs : List S44) (i : Int) : S44 := xs.getD i.toNat z44
theorem at_T44 {w : World} {A : Option Addr} {n : Nat} {xs : List S44} (h : Kd.C k44 w A n xs) (i : Int) (h0 : 0 ≤ i) (h1 : i < n) : ∃ ad , A = some ad ∧ w.cell? (ad.add (i.toNat * 5)) = some (.string (rd_T44 xs i).f0) ∧ w.cell? ⟨(ad.add (i.toNat * 5)).block, (ad.add (i.toNat * 5)).off + 1, none⟩ = some (.string (rd_T44 xs i).f1) ∧ w.cell? ⟨(ad.add (i.toNat * 5)).block, (ad.add (i.toNat * 5)).off + 2, none⟩ = some (.int .i64 (rd_T44 xs i).f2) ∧ w.cell? ⟨(ad.add (i.toNat * 5)).block, (ad.add (i.toNat * 5)).off + 3, none⟩ = some (.string (rd_T44 xs i).f3) ∧ w.cell? ⟨(ad.add (i.toNat * 5)).block, (ad.add (i.toNat * 5)).off + 4, none⟩ = some (.string (rd_T44 xs i).f4) := by
  obtain ⟨ad, c, e, _, hK, hc0⟩ := Kd.C_get h z44 i h0 h1
  have hc : ∀ j u, c[j]? = some u → w.cell? (ad.add (i.toNat * 5 + j)) = some u := hc0
  obtain rfl := k44_open hK
  exact ⟨ad, e, hc 0 _ rfl, by rw [← add_field _ _ 1 (by omega)]; exact hc 1 _ rfl, by rw [← add_field _ _ 2 (by omega)]; exact hc 2 _ rfl, by rw [← add_field _ _ 3 (by omega)]; exact hc 3 _ rfl, by rw [← add_field _ _ 4 (by omega)]; exact hc 4 _ rfl⟩

/-! #### struct type 45 -/
structure S45 where
  f0 : ByteArray
  f1 : ByteArray
  f2 : Int
  f3 : ByteArray
  f4 : ByteArray
def z45 : S45 := ⟨(⟨#[]⟩ : ByteArray), (⟨#[]⟩ : ByteArray), (0 : Int), (⟨#[]⟩ : ByteArray), (⟨#[]⟩ : ByteArray)⟩
def k45 : Kd S45 := Kd.iso (Kd.pair Kd.string (Kd.pair Kd.string (Kd.pair (Kd.int .i64) (Kd.pair Kd.string Kd.string)))) (fun x : S45 => (x.f0, x.f1, x.f2, x.f3, x.f4))
theorem k45_heap : Kd.Heap k45 := Kd.heap_iso _ (Kd.heap_pair Kd.heap_string (Kd.heap_pair Kd.heap_string (Kd.heap_pair (Kd.heap_int .i64) (Kd.heap_pair Kd.heap_string Kd.heap_string))))
theorem k45_open {w : World} {x : S45} {cs : List Value} (h : k45.K w x cs) : cs = [.string x.f0, .string x.f1, .int .i64 x.f2, .string x.f3, .string x.f4] := by
  obtain ⟨_, _, rfl, rfl, ⟨_, _, rfl, rfl, ⟨_, _, rfl, rfl, ⟨_, _, rfl, rfl, rfl⟩⟩⟩⟩ := h
  exact rfl
theorem k45_openM {w : World} {base : Nat} {ok : Nat → Prop} {x : S45} {cs : List Value} (h : k45.M w base ok x cs) : cs = [.string x.f0, .string x.f1, .int .i64 x.f2, .string x.f3, .string x.f4] := by
  obtain ⟨_, _, rfl, rfl, ⟨_, _, rfl, rfl, ⟨_, _, rfl, rfl, ⟨_, _, rfl, rfl, rfl⟩⟩⟩⟩ := h
  exact rfl
theorem k45_mk (w : World) (x : S45)  : k45.K w x [.string x.f0, .string x.f1, .int .i64 x.f2, .string x.f3, .string x.f4] := ⟨[.string x.f0], [.string x.f1, .int .i64 x.f2, .string x.f3, .string x.f4], rfl, rfl, ⟨[.string x.f1], [.int .i64 x.f2, .string x.f3, .string x.f4], rfl, rfl, ⟨[.int .i64 x.f2], [.string x.f3, .string x.f4], rfl, rfl, ⟨[.string x.f3], [.string x.f4], rfl, rfl, rfl⟩⟩⟩⟩
theorem k45_mkM (w : World) (base : Nat) (ok : Nat → Prop) (x : S45)  : k45.M w base ok x [.string x.f0, .string x.f1, .int .i64 x.f2, .string x.f3, .string x.f4] := ⟨[.string x.f0], [.string x.f1, .int .i64 x.f2, .string x.f3, .string x.f4], rfl, rfl, ⟨[.string x.f1], [.int .i64 x.f2, .string x.f3, .string x.f4], rfl, rfl, ⟨[.int .i64 x.f2], [.string x.f3, .string x.f4], rfl, rfl, ⟨[.string x.f3], [.string x.f4], rfl, rfl, rfl⟩⟩⟩⟩
theorem k45_mkF (W : World) (ok : Nat → Prop) (x : S45) : Kd.FK k45 W ok x [.string x.f0, .string x.f1, .int .i64 x.f2, .string x.f3, .string x.f4] := fun W2 _ => k45_mk W2 x
def rd_T45 (xs : List S45) (i : Int) : S45 := xs.getD i.toNat z45
theorem at_T45 {w : World} {A : Option Addr} {n : Nat} {xs : List S45} (h : Kd.C k45 w A n xs) (i : Int) (h0 : 0 ≤ i) (h1 : i < n) : ∃ ad , A = some ad ∧ w.cell? (ad.add (i.toNat * 5)) = some (.string (rd_T45 xs i).f0) ∧ w.cell? ⟨(ad.add (i.toNat * 5)).block, (ad.add (i.toNat * 5)).off + 1, none⟩ = some (.string (rd_T45 xs i).f1) ∧ w.cell? ⟨(ad.add (i.toNat * 5)).block, (ad.add (i.toNat * 5)).off + 2, none⟩ = some (.int .i64 (rd_T45 xs i).f2) ∧ w.cell? ⟨(ad.add (i.toNat * 5)).block, (ad.add (i.toNat * 5)).off + 3, none⟩ = some (.string (rd_T45 xs i).f3) ∧ w.cell? ⟨(ad.add (i.toNat * 5)).block, (ad.add (i.toNat * 5)).off + 4, none⟩ = some (.string (rd_T45 xs i).f4) := by
  obtain ⟨ad, c, e, _, hK, hc0⟩ := Kd.C_get h z45 i h0 h1
  have hc : ∀ j u, c[j]? = some u → w.cell? (ad.add (i.toNat * 5 + j)) = some u := hc0
  obtain rfl := k45_open hK
  exact ⟨ad, e, hc 0 _ rfl, by rw [← add_field _ _ 1 (by omega)]; exact hc 1 _ rfl, by rw [← add_field _ _ 2 (by omega)]; exact hc 2 _ rfl, by rw [← add_field _ _ 3 (by omega)]; exact hc 3 _ rfl, by rw [← add_field _ _ 4 (by omega)]; exact hc 4 _ rfl⟩

/-! #### struct type 46 -/
structure S46 where
  f0 : S43
  f1 : S45
  f2 : ByteArray
  f3 : (List ByteArray)
  f4 : Bool
def z46 : S46 := ⟨z43, z45, (⟨#[]⟩ : ByteArray), ([] : List ByteArray), false⟩
def k46 : Kd S46 := Kd.iso (Kd.pair k43 (Kd.pair k45 (Kd.pair Kd.string (Kd.pair (Kd.slice 9 Kd.string) Kd.bool)))) (fun x : S46 => (x.f0, x.f1, x.f2, x.f3, x.f4))
theorem k46_heap : Kd.Heap k46 := Kd.heap_iso _ (Kd.heap_pair k43_heap (Kd.heap_pair k45_heap (Kd.heap_pair Kd.heap_string (Kd.heap_pair (Kd.heap_slice 9 Kd.heap_string) Kd.heap_bool))))
theorem k46_open {w : World} {x : S46} {cs : List Value} (h : k46.K w x cs) : ∃ A9 c9, cs = [.string x.f0.f0, .string x.f0.f1, .int .i64 x.f0.f2, .string x.f1.f0, .string x.f1.f1, .int .i64 x.f1.f2, .string x.f1.f3, .string x.f1.f4, .string x.f2, .slice A9 x.f3.length c9, .bool x.f4] ∧ x.f3.length ≤ c9 ∧ Kd.string.C w A9 x.f3.length x.f3 := by
  obtain ⟨_, _, rfl, s0, ⟨_, _, rfl, s3, ⟨_, _, rfl, rfl, ⟨_, _, rfl, ⟨A9, c9, rfl, l9, g9⟩, rfl⟩⟩⟩⟩ := h
  obtain rfl := k43_open s0
  obtain rfl := k45_open s3
  exact ⟨A9, c9, rfl, l9, g9⟩
theorem k46_openM {w : World} {base : Nat} {ok : Nat → Prop} {x : S46} {cs : List Value} (h : k46.M w base ok x cs) : ∃ v9, cs = [.string x.f0.f0, .string x.f0.f1, .int .i64 x.f0.f2, .string x.f1.f0, .string x.f1.f1, .int .i64 x.f1.f2, .string x.f1.f3, .string x.f1.f4, .string x.f2, v9, .bool x.f4] ∧ Kd.string.R 9 w base ok v9 x.f3 := by
  obtain ⟨_, _, rfl, s0, ⟨_, _, rfl, s3, ⟨_, _, rfl, rfl, ⟨_, _, rfl, ⟨v9, rfl, g9⟩, rfl⟩⟩⟩⟩ := h
  obtain rfl := k43_openM s0
  obtain rfl := k45_openM s3
  exact ⟨v9, rfl, g9⟩
theorem k46_mk (w : World) (x : S46) {A9 : Option Addr} {c9 : Nat} (l9 : x.f3.length ≤ c9) (g9 : Kd.string.C w A9 x.f3.length x.f3) : k46.K w x [.string x.f0.f0, .string x.f0.f1, .int .i64 x.f0.f2, .string x.f1.f0, .string x.f1.f1, .int .i64 x.f1.f2, .string x.f1.f3, .string x.f1.f4, .string x.f2, .slice A9 x.f3.length c9, .bool x.f4] := ⟨[.string x.f0.f0, .string x.f0.f1, .int .i64 x.f0.f2], [.string x.f1.f0, .string x.f1.f1, .int .i64 x.f1.f2, .string x.f1.f3, .string x.f1.f4, .string x.f2, .slice A9 x.f3.length c9, .bool x.f4], rfl, (k43_mk w x.f0 ), ⟨[.string x.f1.f0, .string x.f1.f1, .int .i64 x.f1.f2, .string x.f1.f3, .string x.f1.f4], [.string x.f2, .slice A9 x.f3.length c9, .bool x.f4], rfl, (k45_mk w x.f1 ), ⟨[.string x.f2], [.slice A9 x.f3.length c9, .bool x.f4], rfl, rfl, ⟨[.slice A9 x.f3.length c9], [.bool x.f4], rfl, ⟨A9, c9, rfl, l9, g9⟩, rfl⟩⟩⟩⟩
theorem k46_mkM (w : World) (base : Nat) (ok : Nat → Prop) (x : S46) {v9 : Value} (g9 : Kd.string.R 9 w base ok v9 x.f3) : k46.M w base ok x [.string x.f0.f0, .string x.f0.f1, .int .i64 x.f0.f2, .string x.f1.f0, .string x.f1.f1, .int .i64 x.f1.f2, .string x.f1.f3, .string x.f1.f4, .string x.f2, v9, .bool x.f4] := ⟨[.string x.f0.f0, .string x.f0.f1, .int .i64 x.f0.f2], [.string x.f1.f0, .string x.f1.f1, .int .i64 x.f1.f2, .string x.f1.f3, .string x.f1.f4, .string x.f2, v9, .bool x.f4], rfl, (k43_mkM w base ok x.f0 ), ⟨[.string x.f1.f0, .string x.f1.f1, .int .i64 x.f1.f2, .string x.f1.f3, .string x.f1.f4], [.string x.f2, v9, .bool x.f4], rfl, (k45_mkM w base ok x.f1 ), ⟨[.string x.f2], [v9, .bool x.f4], rfl, rfl, ⟨[v9], [.bool x.f4], rfl, ⟨v9, rfl, g9⟩, rfl⟩⟩⟩⟩
theorem k46_openF {W : World} {ok : Nat → Prop} {x : S46} {cs : List Value} (h : Kd.FK k46 W ok x cs) : ∃ A9 c9, cs = [.string x.f0.f0, .string x.f0.f1, .int .i64 x.f0.f2, .string x.f1.f0, .string x.f1.f1, .int .i64 x.f1.f2, .string x.f1.f3, .string x.f1.f4, .string x.f2, .slice A9 x.f3.length c9, .bool x.f4] ∧ x.f3.length ≤ c9 ∧ Kd.F Kd.string W ok A9 x.f3.length x.f3 := by
  obtain ⟨A9, c9, rfl, l9, _⟩ := k46_open (Kd.FK_now h)
  exact ⟨A9, c9, rfl, l9, (fun W' hW => by obtain ⟨A9_, c9_, he, l9_, g9_⟩ := k46_open (h W' hW); injection (Option.some.inj (show some (Value.slice A9 x.f3.length c9) = some (Value.slice A9_ x.f3.length c9_) from congrArg (fun l => l[9]?) he)) with ha_ _ _; rw [ha_]; exact g9_)⟩
theorem k46_mkF (W : World) (ok : Nat → Prop) (x : S46) {A9 : Option Addr} {c9 : Nat} (l9 : x.f3.length ≤ c9) (g9 : Kd.F Kd.string W ok A9 x.f3.length x.f3) : Kd.FK k46 W ok x [.string x.f0.f0, .string x.f0.f1, .int .i64 x.f0.f2, .string x.f1.f0, .string x.f1.f1, .int .i64 x.f1.f2, .string x.f1.f3, .string x.f1.f4, .string x.f2, .slice A9 x.f3.length c9, .bool x.f4] := fun W2 hW => k46_mk W2 x l9 (g9 W2 hW)
def rd_T46 (xs : List S46) (i : Int) : S46 := xs.getD i.toNat z46
theorem at_T46 {w : World} {A : Option Addr} {n : Nat} {xs : List S46} (h : Kd.C k46 w A n xs) (i : Int) (h0 : 0 ≤ i) (h1 : i < n) : ∃ ad A9 c9, A = some ad ∧ w.cell? (ad.add (i.toNat * 11)) = some (.string (rd_T46 xs i).f0.f0) ∧ w.cell? ⟨(ad.add (i.toNat * 11)).block, (ad.add (i.toNat * 11)).off + 1, none⟩ = some (.string (rd_T46 xs i).f0.f1) ∧ w.cell? ⟨(ad.add (i.toNat * 11)).block, (ad.add (i.toNat * 11)).off + 2, none⟩ = some (.int .i64 (rd_T46 xs i).f0.f2) ∧ w.cell? ⟨(ad.add (i.toNat * 11)).block, (ad.add (i.toNat * 11)).off + 3, none⟩ = some (.string (rd_T46 xs i).f1.f0) ∧ w.cell? ⟨(ad.add (i.toNat * 11)).block, (ad.add (i.toNat * 11)).off + 4, none⟩ = some (.string (rd_T46 xs i).f1.f1) ∧ w.cell? ⟨(ad.add (i.toNat * 11)).block, (ad.add (i.toNat * 11)).off + 5, none⟩ = some (.int .i64 (rd_T46 xs i).f1.f2) ∧ w.cell? ⟨(ad.add (i.toNat * 11)).block, (ad.add (i.toNat * 11)).off + 6, none⟩ = some (.string (rd_T46 xs i).f1.f3) ∧ w.cell? ⟨(ad.add (i.toNat * 11)).block, (ad.add (i.toNat * 11)).off + 7, none⟩ = some (.string (rd_T46 xs i).f1.f4) ∧ w.cell? ⟨(ad.add (i.toNat * 11)).block, (ad.add (i.toNat * 11)).off + 8, none⟩ = some (.string (rd_T46 xs i).f2) ∧ w.cell? ⟨(ad.add (i.toNat * 11)).block, (ad.add (i.toNat * 11)).off + 9, none⟩ = some (.slice A9 (rd_T46 xs i).f3.length c9) ∧ w.cell? ⟨(ad.add (i.toNat * 11)).block, (ad.add (i.toNat * 11)).off + 10, none⟩ = some (.bool (rd_T46 xs i).f4) ∧ (rd_T46 xs i).f3.length ≤ c9 ∧ Kd.string.C w A9 (rd_T46 xs i).f3.length (rd_T46 xs i).f3 := by
  obtain ⟨ad, c, e, _, hK, hc0⟩ := Kd.C_get h z46 i h0 h1
  have hc : ∀ j u, c[j]? = some u → w.cell? (ad.add (i.toNat * 11 + j)) = some u := hc0
  obtain ⟨A9, c9, rfl, l9, g9⟩ := k46_open hK
  exact ⟨ad, A9, c9, e, hc 0 _ rfl, by rw [← add_field _ _ 1 (by omega)]; exact hc 1 _ rfl, by rw [← add_field _ _ 2 (by omega)]; exact hc 2 _ rfl, by rw [← add_field _ _ 3 (by omega)]; exact hc 3 _ rfl, by rw [← add_field _ _ 4 (by omega)]; exact hc 4 _ rfl, by rw [← add_field _ _ 5 (by omega)]; exact hc 5 _ rfl, by rw [← add_field _ _ 6 (by omega)]; exact hc 6 _ rfl, by rw [← add_field _ _ 7 (by omega)]; exact hc 7 _ rfl, by rw [← add_field _ _ 8 (by omega)]; exact hc 8 _ rfl, by rw [← add_field _ _ 9 (by omega)]; exact hc 9 _ rfl, by rw [← add_field _ _ 10 (by omega)]; exact hc 10 _ rfl, l9, g9⟩

/-! #### struct type 47 -/
structure S47 where
  f0 : S43
  f1 : S45
  f2 : ByteArray
  f3 : (List ByteArray)
  f4 : Bool
def z47 : S47 := ⟨z43, z45, (⟨#[]⟩ : ByteArray), ([] : List ByteArray), false⟩
def k47 : Kd S47 := Kd.iso (Kd.pair k43 (Kd.pair k45 (Kd.pair Kd.string (Kd.pair (Kd.slice 9 Kd.string) Kd.bool)))) (fun x : S47 => (x.f0, x.f1, x.f2, x.f3, x.f4))
theorem k47_heap : Kd.Heap k47 := Kd.heap_iso _ (Kd.heap_pair k43_heap (Kd.heap_pair k45_heap (Kd.heap_pair Kd.heap_string (Kd.heap_pair (Kd.heap_slice 9 Kd.heap_string) Kd.heap_bool))))
theorem k47_open {w : World} {x : S47} {cs : List Value} (h : k47.K w x cs) : ∃ A9 c9, cs = [.string x.f0.f0, .string x.f0.f1, .int .i64 x.f0.f2, .string x.f1.f0, .string x.f1.f1, .int .i64 x.f1.f2, .string x.f1.f3, .string x.f1.f4, .string x.f2, .slice A9 x.f3.length c9, .bool x.f4] ∧ x.f3.length ≤ c9 ∧ Kd.string.C w A9 x.f3.length x.f3 := by
  obtain ⟨_, _, rfl, s0, ⟨_, _, rfl, s3, ⟨_, _, rfl, rfl, ⟨_, _, rfl, ⟨A9, c9, rfl, l9, g9⟩, rfl⟩⟩⟩⟩ := h
  obtain rfl := k43_open s0
  obtain rfl := k45_open s3
  exact ⟨A9, c9, rfl, l9, g9⟩
theorem k47_openM {w : World} {base : Nat} {ok : Nat → Prop} {x : S47} {cs : List Value} (h : k47.M w base ok x cs) : ∃ v9, cs = [.string x.f0.f0, .string x.f0.f1, .int .i64 x.f0.f2, .string x.f1.f0, .string x.f1.f1, .int .i64 x.f1.f2, .string x.f1.f3, .string x.f1.f4, .string x.f2, v9, .bool x.f4] ∧ Kd.string.R 9 w base ok v9 x.f3 := by
  obtain ⟨_, _, rfl, s0, ⟨_, _, rfl, s3, ⟨_, _, rfl, rfl, ⟨_, _, rfl, ⟨v9, rfl, g9⟩, rfl⟩⟩⟩⟩ := h
  obtain rfl := k43_openM s0
  obtain rfl := k45_openM s3
  exact ⟨v9, rfl, g9⟩
theorem k47_mk (w : World) (x : S47) {A9 : Option Addr} {c9 : Nat} (l9 : x.f3.length ≤ c9) (g9 : Kd.string.C w A9 x.f3.length x.f3) : k47.K w x [.string x.f0.f0, .string x.f0.f1, .int .i64 x.f0.f2, .string x.f1.f0, .string x.f1.f1, .int .i64 x.f1.f2, .string x.f1.f3, .string x.f1.f4, .string x.f2, .slice A9 x.f3.length c9, .bool x.f4] := ⟨[.string x.f0.f0, .string x.f0.f1, .int .i64 x.f0.f2], [.string x.f1.f0, .string x.f1.f1, .int .i64 x.f1.f2, .string x.f1.f3, .string x.f1.f4, .string x.f2, .slice A9 x.f3.length c9, .bool x.f4], rfl, (k43_mk w x.f0 ), ⟨[.string x.f1.f0, .string x.f1.f1, .int .i64 x.f1.f2, .string x.f1.f3, .string x.f1.f4], [.string x.f2, .slice A9 x.f3.length c9, .bool x.f4], rfl, (k45_mk w x.f1 ), ⟨[.string x.f2], [.slice A9 x.f3.length c9, .bool x.f4], rfl, rfl, ⟨[.slice A9 x.f3.length c9], [.bool x.f4], rfl, ⟨A9, c9, rfl, l9, g9⟩, rfl⟩⟩⟩⟩
theorem k47_mkM (w : World) (base : Nat) (ok : Nat → Prop) (x : S47) {v9 : Value} (g9 : Kd.string.R 9 w base ok v9 x.f3) : k47.M w base ok x [.string x.f0.f0, .string x.f0.f1, .int .i64 x.f0.f2, .string x.f1.f0, .string x.f1.f1, .int .i64 x.f1.f2, .string x.f1.f3, .string x.f1.f4, .string x.f2, v9, .bool x.f4] := ⟨[.string x.f0.f0, .string x.f0.f1, .int .i64 x.f0.f2], [.string x.f1.f0, .string x.f1.f1, .int .i64 x.f1.f2, .string x.f1.f3, .string x.f1.f4, .string x.f2, v9, .bool x.f4], rfl, (k43_mkM w base ok x.f0 ), ⟨[.string x.f1.f0, .string x.f1.f1, .int .i64 x.f1.f2, .string x.f1.f3, .string x.f1.f4], [.string x.f2, v9, .bool x.f4], rfl, (k45_mkM w base ok x.f1 ), ⟨[.string x.f2], [v9, .bool x.f4], rfl, rfl, ⟨[v9], [.bool x.f4], rfl, ⟨v9, rfl, g9⟩, rfl⟩⟩⟩⟩
theorem k47_openF {W : World} {ok : Nat → Prop} {x : S47} {cs : List Value} (h : Kd.FK k47 W ok x cs) : ∃ A9 c9, cs = [.string x.f0.f0, .string x.f0.f1, .int .i64 x.f0.f2, .string x.f1.f0, .string x.f1.f1, .int .i64 x.f1.f2, .string x.f1.f3, .string x.f1.f4, .string x.f2, .slice A9 x.f3.length c9, .bool x.f4] ∧ x.f3.length ≤ c9 ∧ Kd.F Kd.string W ok A9 x.f3.length x.f3 := by
  obtain ⟨A9, c9, rfl, l9, _⟩ := k47_open (Kd.FK_now h)
  exact ⟨A9, c9, rfl, l9, (fun W' hW => by obtain ⟨A9_, c9_, he, l9_, g9_⟩ := k47_open (h W' hW); injection (Option.some.inj (show some (Value.slice A9 x.f3.length c9) = some (Value.slice A9_ x.f3.length c9_) from congrArg (fun l => l[9]?) he)) with ha_ _ _; rw [ha_]; exact g9_)⟩
theorem k47_mkF (W : World) (ok : Nat → Prop) (x : S47) {A9 : Option Addr} {c9 : Nat} (l9 : x.f3.length ≤ c9) (g9 : Kd.F Kd.string W ok A9 x.f3.length x.f3) : Kd.FK k47 W ok x [.string x.f0.f0, .string x.f0.f1, .int .i64 x.f0.f2, .string x.f1.f0, .string x.f1.f1, .int .i64 x.f1.f2, .string x.f1.f3, .string x.f1.f4, .string x.f2, .slice A9 x.f3.length c9, .bool x.f4] := fun W2 hW => k47_mk W2 x l9 (g9 W2 hW)
def rd_T47 (xs : List S47) (i : Int) : S47 := xs.getD i.toNat z47
theorem at_T47 {w : World} {A : Option Addr} {n : Nat} {xs : List S47} (h : Kd.C k47 w A n xs) (i : Int) (h0 : 0 ≤ i) (h1 : i < n) : ∃ ad A9 c9, A = some ad ∧ w.cell? (ad.add (i.toNat * 11)) = some (.string (rd_T47 xs i).f0.f0) ∧ w.cell? ⟨(ad.add (i.toNat * 11)).block, (ad.add (i.toNat * 11)).off + 1, none⟩ = some (.string (rd_T47 xs i).f0.f1) ∧ w.cell? ⟨(ad.add (i.toNat * 11)).block, (ad.add (i.toNat * 11)).off + 2, none⟩ = some (.int .i64 (rd_T47 xs i).f0.f2) ∧ w.cell? ⟨(ad.add (i.toNat * 11)).block, (ad.add (i.toNat * 11)).off + 3, none⟩ = some (.string (rd_T47 xs i).f1.f0) ∧ w.cell? ⟨(ad.add (i.toNat * 11)).block, (ad.add (i.toNat * 11)).off + 4, none⟩ = some (.string (rd_T47 xs i).f1.f1) ∧ w.cell? ⟨(ad.add (i.toNat * 11)).block, (ad.add (i.toNat * 11)).off + 5, none⟩ = some (.int .i64 (rd_T47 xs i).f1.f2) ∧ w.cell? ⟨(ad.add (i.toNat * 11)).block, (ad.add (i.toNat * 11)).off + 6, none⟩ = some (.string (rd_T47 xs i).f1.f3) ∧ w.cell? ⟨(ad.add (i.toNat * 11)).block, (ad.add (i.toNat * 11)).off + 7, none⟩ = some (.string (rd_T47 xs i).f1.f4) ∧ w.cell? ⟨(ad.add (i.toNat * 11)).block, (ad.add (i.toNat * 11)).off + 8, none⟩ = some (.string (rd_T47 xs i).f2) ∧ w.cell? ⟨(ad.add (i.toNat * 11)).block, (ad.add (i.toNat * 11)).off + 9, none⟩ = some (.slice A9 (rd_T47 xs i).f3.length c9) ∧ w.cell? ⟨(ad.add (i.toNat * 11)).block, (ad.add (i.toNat * 11)).off + 10, none⟩ = some (.bool (rd_T47 xs i).f4) ∧ (rd_T47 xs i).f3.length ≤ c9 ∧ Kd.string.C w A9 (rd_T47 xs i).f3.length (rd_T47 xs i).f3 := by
  obtain ⟨ad, c, e, _, hK, hc0⟩ := Kd.C_get h z47 i h0 h1
  have hc : ∀ j u, c[j]? = some u → w.cell? (ad.add (i.toNat * 11 + j)) = some u := hc0
  obtain ⟨A9, c9, rfl, l9, g9⟩ := k47_open hK
  exact ⟨ad, A9, c9, e, hc 0 _ rfl, by rw [← add_field _ _ 1 (by omega)]; exact hc 1 _ rfl, by rw [← add_field _ _ 2 (by omega)]; exact hc 2 _ rfl, by rw [← add_field _ _ 3 (by omega)]; exact hc 3 _ rfl, by rw [← add_field _ _ 4 (by omega)]; exact hc 4 _ rfl, by rw [← add_field _ _ 5 (by omega)]; exact hc 5 _ rfl, by rw [← add_field _ _ 6 (by omega)]; exact hc 6 _ rfl, by rw [← add_field _ _ 7 (by omega)]; exact hc 7 _ rfl, by rw [← add_field _ _ 8 (by omega)]; exact hc 8 _ rfl, by rw [← add_field _ _ 9 (by omega)]; exact hc 9 _ rfl, by rw [← add_field _ _ 10 (by omega)]; exact hc 10 _ rfl, l9, g9⟩

/-! #### struct type 48 -/
structure S48 where
  f0 : S43
  f1 : S45
  f2 : ByteArray
  f3 : (List ByteArray)
  f4 : Bool
def z48 : S48 := ⟨z43, z45, (⟨#[]⟩ : ByteArray), ([] : List ByteArray), false⟩
def k48 : Kd S48 := Kd.iso (Kd.pair k43 (Kd.pair k45 (Kd.pair Kd.string (Kd.pair (Kd.slice 9 Kd.string) Kd.bool)))) (fun x : S48 => (x.f0, x.f1, x.f2, x.f3, x.f4))
theorem k48_heap : Kd.Heap k48 := Kd.heap_iso _ (Kd.heap_pair k43_heap (Kd.heap_pair k45_heap (Kd.heap_pair Kd.heap_string (Kd.heap_pair (Kd.heap_slice 9 Kd.heap_string) Kd.heap_bool))))
theorem k48_open {w : World} {x : S48} {cs : List Value} (h : k48.K w x cs) : ∃ A9 c9, cs = [.string x.f0.f0, .string x.f0.f1, .int .i64 x.f0.f2, .string x.f1.f0, .string x.f1.f1, .int .i64 x.f1.f2, .string x.f1.f3, .string x.f1.f4, .string x.f2, .slice A9 x.f3.length c9, .bool x.f4] ∧ x.f3.length ≤ c9 ∧ Kd.string.C w A9 x.f3.length x.f3 := by
  obtain ⟨_, _, rfl, s0, ⟨_, _, rfl, s3, ⟨_, _, rfl, rfl, ⟨_, _, rfl, ⟨A9, c9, rfl, l9, g9⟩, rfl⟩⟩⟩⟩ := h
  obtain rfl := k43_open s0
  obtain rfl := k45_open s3
  exact ⟨A9, c9, rfl, l9, g9⟩
theorem k48_openM {w : World} {base : Nat} {ok : Nat → Prop} {x : S48} {cs : List Value} (h : k48.M w base ok x cs) : ∃ v9, cs = [.string x.f0.f0, .string x.f0.f1, .int .i64 x.f0.f2, .string x.f1.f0, .string x.f1.f1, .int .i64 x.f1.f2, .string x.f1.f3, .string x.f1.f4, .string x.f2, v9, .bool x.f4] ∧ Kd.string.R 9 w base ok v9 x.f3 := by
  obtain ⟨_, _, rfl, s0, ⟨_, _, rfl, s3, ⟨_, _, rfl, rfl, ⟨_, _, rfl, ⟨v9, rfl, g9⟩, rfl⟩⟩⟩⟩ := h
  obtain rfl := k43_openM s0
  obtain rfl := k45_openM s3
  exact ⟨v9, rfl, g9⟩
theorem k48_mk (w : World) (x : S48) {A9 : Option Addr} {c9 : Nat} (l9 : x.f3.length ≤ c9) (g9 : Kd.string.C w A9 x.f3.length x.f3) : k48.K w x [.string x.f0.f0, .string x.f0.f1, .int .i64 x.f0.f2, .string x.f1.f0, .string x.f1.f1, .int .i64 x.f1.f2, .string x.f1.f3, .string x.f1.f4, .string x.f2, .slice A9 x.f3.length c9, .bool x.f4] := ⟨[.string x.f0.f0, .string x.f0.f1, .int .i64 x.f0.f2], [.string x.f1.f0, .string x.f1.f1, .int .i64 x.f1.f2, .string x.f1.f3, .string x.f1.f4, .string x.f2, .slice A9 x.f3.length c9, .bool x.f4], rfl, (k43_mk w x.f0 ), ⟨[.string x.f1.f0, .string x.f1.f1, .int .i64 x.f1.f2, .string x.f1.f3, .string x.f1.f4], [.string x.f2, .slice A9 x.f3.length c9, .bool x.f4], rfl, (k45_mk w x.f1 ), ⟨[.string x.f2], [.slice A9 x.f3.length c9, .bool x.f4], rfl, rfl, ⟨[.slice A9 x.f3.length c9], [.bool x.f4], rfl, ⟨A9, c9, rfl, l9, g9⟩, rfl⟩⟩⟩⟩
theorem k48_mkM (w : World) (base : Nat) (ok : Nat → Prop) (x : S48) {v9 : Value} (g9 : Kd.string.R 9 w base ok v9 x.f3) : k48.M w base ok x [.string x.f0.f0, .string x.f0.f1, .int .i64 x.f0.f2, .string x.f1.f0, .string x.f1.f1, .int .i64 x.f1.f2, .string x.f1.f3, .string x.f1.f4, .string x.f2, v9, .bool x.f4] := ⟨[.string x.f0.f0, .string x.f0.f1, .int .i64 x.f0.f2], [.string x.f1.f0, .string x.f1.f1, .int .i64 x.f1.f2, .string x.f1.f3, .string x.f1.f4, .string x.f2, v9, .bool x.f4], rfl, (k43_mkM w base ok x.f0 ), ⟨[.string x.f1.f0, .string x.f1.f1, .int .i64 x.f1.f2, .string x.f1.f3, .string x.f1.f4], [.string x.f2, v9, .bool x.f4], rfl, (k45_mkM w base ok x.f1 ), ⟨[.string x.f2], [v9, .bool x.f4], rfl, rfl, ⟨[v9], [.bool x.f4], rfl, ⟨v9, rfl, g9⟩, rfl⟩⟩⟩⟩
theorem k48_openF {W : World} {ok : Nat → Prop} {x : S48} {cs : List Value} (h : Kd.FK k48 W ok x cs) : ∃ A9 c9, cs = [.string x.f0.f0, .string x.f0.f1, .int .i64 x.f0.f2, .string x.f1.f0, .string x.f1.f1, .int .i64 x.f1.f2, .string x.f1.f3, .string x.f1.f4, .string x.f2, .slice A9 x.f3.length c9, .bool x.f4] ∧ x.f3.length ≤ c9 ∧ Kd.F Kd.string W ok A9 x.f3.length x.f3 := by
  obtain ⟨A9, c9, rfl, l9, _⟩ := k48_open (Kd.FK_now h)
  exact ⟨A9, c9, rfl, l9, (fun W' hW => by obtain ⟨A9_, c9_, he, l9_, g9_⟩ := k48_open (h W' hW); injection (Option.some.inj (show some (Value.slice A9 x.f3.length c9) = some (Value.slice A9_ x.f3.length c9_) from congrArg (fun l => l[9]?) he)) with ha_ _ _; rw [ha_]; exact g9_)⟩
theorem k48_mkF (W : World) (ok : Nat → Prop) (x : S48) {A9 : Option Addr} {c9 : Nat} (l9 : x.f3.length ≤ c9) (g9 : Kd.F Kd.string W ok A9 x.f3.length x.f3) : Kd.FK k48 W ok x [.string x.f0.f0, .string x.f0.f1, .int .i64 x.f0.f2, .string x.f1.f0, .string x.f1.f1, .int .i64 x.f1.f2, .string x.f1.f3, .string x.f1.f4, .string x.f2, .slice A9 x.f3.length c9, .bool x.f4] := fun W2 hW => k48_mk W2 x l9 (g9 W2 hW)
def rd_T48 (xs : List S48) (i : Int) : S48 := xs.getD i.toNat z48
theorem at_T48 {w : World} {A : Option Addr} {n : Nat} {xs : List S48} (h : Kd.C k48 w A n xs) (i : Int) (h0 : 0 ≤ i) (h1 : i < n) : ∃ ad A9 c9, A = some ad ∧ w.cell? (ad.add (i.toNat * 11)) = some (.string (rd_T48 xs i).f0.f0) ∧ w.cell? ⟨(ad.add (i.toNat * 11)).block, (ad.add (i.toNat * 11)).off + 1, none⟩ = some (.string (rd_T48 xs i).f0.f1) ∧ w.cell? ⟨(ad.add (i.toNat * 11)).block, (ad.add (i.toNat * 11)).off + 2, none⟩ = some (.int .i64 (rd_T48 xs i).f0.f2) ∧ w.cell? ⟨(ad.add (i.toNat * 11)).block, (ad.add (i.toNat * 11)).off + 3, none⟩ = some (.string (rd_T48 xs i).f1.f0) ∧ w.cell? ⟨(ad.add (i.toNat * 11)).block, (ad.add (i.toNat * 11)).off + 4, none⟩ = some (.string (rd_T48 xs i).f1.f1) ∧ w.cell? ⟨(ad.add (i.toNat * 11)).block, (ad.add (i.toNat * 11)).off + 5, none⟩ = some (.int .i64 (rd_T48 xs i).f1.f2) ∧ w.cell? ⟨(ad.add (i.toNat * 11)).block, (ad.add (i.toNat * 11)).off + 6, none⟩ = some (.string (rd_T48 xs i).f1.f3) ∧ w.cell? ⟨(ad.add (i.toNat * 11)).block, (ad.add (i.toNat * 11)).off + 7, none⟩ = some (.string (rd_T48 xs i).f1.f4) ∧ w.cell? ⟨(ad.add (i.toNat * 11)).block, (ad.add (i.toNat * 11)).off + 8, none⟩ = some (.string (rd_T48 xs i).f2) ∧ w.cell? ⟨(ad.add (i.toNat * 11)).block, (ad.add (i.toNat * 11)).off + 9, none⟩ = some (.slice A9 (rd_T48 xs i).f3.length c9) ∧ w.cell? ⟨(ad.add (i.toNat * 11)).block, (ad.add (i.toNat * 11)).off + 10, none⟩ = some (.bool (rd_T48 xs i).f4) ∧ (rd_T48 xs i).f3.length ≤ c9 ∧ Kd.string.C w A9 (rd_T48 xs i).f3.length (rd_T48 xs i).f3 := by
  obtain ⟨ad, c, e, _, hK, hc0⟩ := Kd.C_get h z48 i h0 h1
  have hc : ∀ j u, c[j]? = some u → w.cell? (ad.add (i.toNat * 11 + j)) = some u := hc0
  obtain ⟨A9, c9, rfl, l9, g9⟩ := k48_open hK
  exact ⟨ad, A9, c9, e, hc 0 _ rfl, by rw [← add_field _ _ 1 (by omega)]; exact hc 1 _ rfl, by rw [← add_field _ _ 2 (by omega)]; exact hc 2 _ rfl, by rw [← add_field _ _ 3 (by omega)]; exact hc 3 _ rfl, by rw [← add_field _ _ 4 (by omega)]; exact hc 4 _ rfl, by rw [← add_field _ _ 5 (by omega)]; exact hc 5 _ rfl, by rw [← add_field _ _ 6 (by omega)]; exact hc 6 _ rfl, by rw [← add_field _ _ 7 (by omega)]; exact hc 7 _ rfl, by rw [← add_field _ _ 8 (by omega)]; exact hc 8 _ rfl, by rw [← add_field _ _ 9 (by omega)]; exact hc 9 _ rfl, by rw [← add_field _ _ 10 (by omega)]; exact hc 10 _ rfl, l9, g9⟩

/-! #### struct type 51 -/
structure S51 where
  f0 : ByteArray
  f1 : ByteArray
  f2 : (List S25)
def z51 : S51 := ⟨(⟨#[]⟩ : ByteArray), (⟨#[]⟩ : ByteArray), ([] : List S25)⟩
def k51 : Kd S51 := Kd.iso (Kd.pair Kd.string (Kd.pair Kd.string (Kd.slice 25 k25))) (fun x : S51 => (x.f0, x.f1, x.f2))
theorem k51_heap : Kd.Heap k51 := Kd.heap_iso _ (Kd.heap_pair Kd.heap_string (Kd.heap_pair Kd.heap_string (Kd.heap_slice 25 k25_heap)))
theorem k51_open {w : World} {x : S51} {cs : List Value} (h : k51.K w x cs) : ∃ A2 c2, cs = [.string x.f0, .string x.f1, .slice A2 x.f2.length c2] ∧ x.f2.length ≤ c2 ∧ k25.C w A2 x.f2.length x.f2 := by
  obtain ⟨_, _, rfl, rfl, ⟨_, _, rfl, rfl, ⟨A2, c2, rfl, l2, g2⟩⟩⟩ := h
  exact ⟨A2, c2, rfl, l2, g2⟩
theorem k51_openM {w : World} {base : Nat} {ok : Nat → Prop} {x : S51} {cs : List Value} (h : k51.M w base ok x cs) : ∃ v2, cs = [.string x.f0, .string x.f1, v2] ∧ k25.R 25 w base ok v2 x.f2 := by
  obtain ⟨_, _, rfl, rfl, ⟨_, _, rfl, rfl, ⟨v2, rfl, g2⟩⟩⟩ := h
  exact ⟨v2, rfl, g2⟩
theorem k51_mk (w : World) (x : S51) {A2 : Option Addr} {c2 : Nat} (l2 : x.f2.length ≤ c2) (g2 : k25.C w A2 x.f2.length x.f2) : k51.K w x [.string x.f0, .string x.f1, .slice A2 x.f2.length c2] := ⟨[.string x.f0], [.string x.f1, .slice A2 x.f2.length c2], rfl, rfl, ⟨[.string x.f1], [.slice A2 x.f2.length c2], rfl, rfl, ⟨A2, c2, rfl, l2, g2⟩⟩⟩
theorem k51_mkM (w : World) (base : Nat) (ok : Nat → Prop) (x : S51) {v2 : Value} (g2 : k25.R 25 w base ok v2 x.f2) : k51.M w base ok x [.string x.f0, .string x.f1, v2] := ⟨[.string x.f0], [.string x.f1, v2], rfl, rfl, ⟨[.string x.f1], [v2], rfl, rfl, ⟨v2, rfl, g2⟩⟩⟩
theorem k51_openF {W : World} {ok : Nat → Prop} {x : S51} {cs : List Value} (h : Kd.FK k51 W ok x cs) : ∃ A2 c2, cs = [.string x.f0, .string x.f1, .slice A2 x.f2.length c2] ∧ x.f2.length ≤ c2 ∧ Kd.F k25 W ok A2 x.f2.length x.f2 := by
  obtain ⟨A2, c2, rfl, l2, _⟩ := k51_open (Kd.FK_now h)
  exact ⟨A2, c2, rfl, l2, (fun W' hW => by obtain ⟨A2_, c2_, he, l2_, g2_⟩ := k51_open (h W' hW); injection (Option.some.inj (show some (Value.slice A2 x.f2.length c2) = some (Value.slice A2_ x.f2.length c2_) from congrArg (fun l => l[2]?) he)) with ha_ _ _; rw [ha_]; exact g2_)⟩
theorem k51_mkF (W : World) (ok : Nat → Prop) (x : S51) {A2 : Option Addr} {c2 : Nat} (l2 : x.f2.length ≤ c2) (g2 : Kd.F k25 W ok A2 x.f2.length x.f2) : Kd.FK k51 W ok x [.string x.f0, .string x.f1, .slice A2 x.f2.length c2] := fun W2 hW => k51_mk W2 x l2 (g2 W2 hW)
def rd_T51 (xs : List S51) (i : Int) : S51 := xs.getD i.toNat z51
theorem at_T51 {w : World} {A : Option Addr} {n : Nat} {xs : List S51} (h : Kd.C k51 w A n xs) (i : Int) (h0 : 0 ≤ i) (h1 : i < n) : ∃ ad A2 c2, A = some ad ∧ w.cell? (ad.add (i.toNat * 3)) = some (.string (rd_T51 xs i).f0) ∧ w.cell? ⟨(ad.add (i.toNat * 3)).block, (ad.add (i.toNat * 3)).off + 1, none⟩ = some (.string (rd_T51 xs i).f1) ∧ w.cell? ⟨(ad.add (i.toNat * 3)).block, (ad.add (i.toNat * 3)).off + 2, none⟩ = some (.slice A2 (rd_T51 xs i).f2.length c2) ∧ (rd_T51 xs i).f2.length ≤ c2 ∧ k25.C w A2 (rd_T51 xs i).f2.length (rd_T51 xs i).f2 := by
  obtain ⟨ad, c, e, _, hK, hc0⟩ := Kd.C_get h z51 i h0 h1
  have hc : ∀ j u, c[j]? = some u → w.cell? (ad.add (i.toNat * 3 + j)) = some u := hc0
  obtain ⟨A2, c2, rfl, l2, g2⟩ := k51_open hK
  exact ⟨ad, A2, c2, e, hc 0 _ rfl, by rw [← add_field _ _ 1 (by omega)]; exact hc 1 _ rfl, by rw [← add_field _ _ 2 (by omega)]; exact hc 2 _ rfl, l2, g2⟩

/-! #### struct type 52 -/
structure S52 where
  f0 : ByteArray
  f1 : ByteArray
  f2 : (List S25)
def z52 : S52 := ⟨(⟨#[]⟩ : ByteArray), (⟨#[]⟩ : ByteArray), ([] : List S25)⟩
def k52 : Kd S52 := Kd.iso (Kd.pair Kd.string (Kd.pair Kd.string (Kd.slice 25 k25))) (fun x : S52 => (x.f0, x.f1, x.f2))
theorem k52_heap : Kd.Heap k52 := Kd.heap_iso _ (Kd.heap_pair Kd.heap_string (Kd.heap_pair Kd.heap_string (Kd.heap_slice 25 k25_heap)))
theorem k52_open {w : World} {x : S52} {cs : List Value} (h : k52.K w x cs) : ∃ A2 c2, cs = [.string x.f0, .string x.f1, .slice A2 x.f2.length c2] ∧ x.f2.length ≤ c2 ∧ k25.C w A2 x.f2.length x.f2 := by
  obtain ⟨_, _, rfl, rfl, ⟨_, _, rfl, rfl, ⟨A2, c2, rfl, l2, g2⟩⟩⟩ := h
  exact ⟨A2, c2, rfl, l2, g2⟩
theorem k52_openM {w : World} {base : Nat} {ok : Nat → Prop} {x : S52} {cs : List Value} (h : k52.M w base ok x cs) : ∃ v2, cs = [.string x.f0, .string x.f1, v2] ∧ k25.R 25 w base ok v2 x.f2 := by
  obtain ⟨_, _, rfl, rfl, ⟨_, _, rfl, rfl, ⟨v2, rfl, g2⟩⟩⟩ := h
  exact ⟨v2, rfl, g2⟩
theorem k52_mk (w : World) (x : S52) {A2 : Option Addr} {c2 : Nat} (l2 : x.f2.length ≤ c2) (g2 : k25.C w A2 x.f2.length x.f2) : k52.K w x [.string x.f0, .string x.f1, .slice A2 x.f2.length c2] := ⟨[.string x.f0], [.string x.f1, .slice A2 x.f2.length c2], rfl, rfl, ⟨[.string x.f1], [.slice A2 x.f2.length c2], rfl, rfl, ⟨A2, c2, rfl, l2, g2⟩⟩⟩
theorem k52_mkM (w : World) (base : Nat) (ok : Nat → Prop) (x : S52) {v2 : Value} (g2 : k25.R 25 w base ok v2 x.f2) : k52.M w base ok x [.string x.f0, .string x.f1, v2] := ⟨[.string x.f0], [.string x.f1, v2], rfl, rfl, ⟨[.string x.f1], [v2], rfl, rfl, ⟨v2, rfl, g2⟩⟩⟩
theorem k52_openF {W : World} {ok : Nat → Prop} {x : S52} {cs : List Value} (h : Kd.FK k52 W ok x cs) : ∃ A2 c2, cs = [.string x.f0, .string x.f1, .slice A2 x.f2.length c2] ∧ x.f2.length ≤ c2 ∧ Kd.F k25 W ok A2 x.f2.length x.f2 := by
  obtain ⟨A2, c2, rfl, l2, _⟩ := k52_open (Kd.FK_now h)
  exact ⟨A2, c2, rfl, l2, (fun W' hW => by obtain ⟨A2_, c2_, he, l2_, g2_⟩ := k52_open (h W' hW); injection (Option.some.inj (show some (Value.slice A2 x.f2.length c2) = some (Value.slice A2_ x.f2.length c2_) from congrArg (fun l => l[2]?) he)) with ha_ _ _; rw [ha_]; exact g2_)⟩
theorem k52_mkF (W : World) (ok : Nat → Prop) (x : S52) {A2 : Option Addr} {c2 : Nat} (l2 : x.f2.length ≤ c2) (g2 : Kd.F k25 W ok A2 x.f2.length x.f2) : Kd.FK k52 W ok x [.string x.f0, .string x.f1, .slice A2 x.f2.length c2] := fun W2 hW => k52_mk W2 x l2 (g2 W2 hW)
def rd_T52 (xs : List S52) (i : Int) : S52 := xs.getD i.toNat z52
theorem at_T52 {w : World} {A : Option Addr} {n : Nat} {xs : List S52} (h : Kd.C k52 w A n xs) (i : Int) (h0 : 0 ≤ i) (h1 : i < n) : ∃ ad A2 c2, A = some ad ∧ w.cell? (ad.add (i.toNat * 3)) = some (.string (rd_T52 xs i).f0) ∧ w.cell? ⟨(ad.add (i.toNat * 3)).block, (ad.add (i.toNat * 3)).off + 1, none⟩ = some (.string (rd_T52 xs i).f1) ∧ w.cell? ⟨(ad.add (i.toNat * 3)).block, (ad.add (i.toNat * 3)).off + 2, none⟩ = some (.slice A2 (rd_T52 xs i).f2.length c2) ∧ (rd_T52 xs i).f2.length ≤ c2 ∧ k25.C w A2 (rd_T52 xs i).f2.length (rd_T52 xs i).f2 := by
  obtain ⟨ad, c, e, _, hK, hc0⟩ := Kd.C_get h z52 i h0 h1
  have hc : ∀ j u, c[j]? = some u → w.cell? (ad.add (i.toNat * 3 + j)) = some u := hc0
  obtain ⟨A2, c2, rfl, l2, g2⟩ := k52_open hK
  exact ⟨ad, A2, c2, e, hc 0 _ rfl, by rw [← add_field _ _ 1 (by omega)]; exact hc 1 _ rfl, by rw [← add_field _ _ 2 (by omega)]; exact hc 2 _ rfl, l2, g2⟩

/-! #### struct type 66 -/
structure S66 where
  f0 : Int
  f1 : (List S25)
def z66 : S66 := ⟨(0 : Int), ([] : List S25)⟩
def k66 : Kd S66 := Kd.iso (Kd.pair (Kd.int .i64) (Kd.slice 25 k25)) (fun x : S66 => (x.f0, x.f1))
theorem k66_heap : Kd.Heap k66 := Kd.heap_iso _ (Kd.heap_pair (Kd.heap_int .i64) (Kd.heap_slice 25 k25_heap))
theorem k66_open {w : World} {x : S66} {cs : List Value} (h : k66.K w x cs) : ∃ A1 c1, cs = [.int .i64 x.f0, .slice A1 x.f1.length c1] ∧ x.f1.length ≤ c1 ∧ k25.C w A1 x.f1.length x.f1 := by
  obtain ⟨_, _, rfl, rfl, ⟨A1, c1, rfl, l1, g1⟩⟩ := h
  exact ⟨A1, c1, rfl, l1, g1⟩
theorem k66_openM {w : World} {base : Nat} {ok : Nat → Prop} {x : S66} {cs : List Value} (h : k66.M w base ok x cs) : ∃ v1, cs = [.int .i64 x.f0, v1] ∧ k25.R 25 w base ok v1 x.f1 := by
  obtain ⟨_, _, rfl, rfl, ⟨v1, rfl, g1⟩⟩ := h
  exact ⟨v1, rfl, g1⟩
theorem k66_mk (w : World) (x : S66) {A1 : Option Addr} {c1 : Nat} (l1 : x.f1.length ≤ c1) (g1 : k25.C w A1 x.f1.length x.f1) : k66.K w x [.int .i64 x.f0, .slice A1 x.f1.length c1] := ⟨[.int .i64 x.f0], [.slice A1 x.f1.length c1], rfl, rfl, ⟨A1, c1, rfl, l1, g1⟩⟩
theorem k66_mkM (w : World) (base : Nat) (ok : Nat → Prop) (x : S66) {v1 : Value} (g1 : k25.R 25 w base ok v1 x.f1) : k66.M w base ok x [.int .i64 x.f0, v1] := ⟨[.int .i64 x.f0], [v1], rfl, rfl, ⟨v1, rfl, g1⟩⟩
theorem k66_openF {W : World} {ok : Nat → Prop} {x : S66} {cs : List Value} (h : Kd.FK k66 W ok x cs) : ∃ A1 c1, cs = [.int .i64 x.f0, .slice A1 x.f1.length c1] ∧ x.f1.length ≤ c1 ∧ Kd.F k25 W ok A1 x.f1.length x.f1 := by
  obtain ⟨A1, c1, rfl, l1, _⟩ := k66_open (Kd.FK_now h)
  exact ⟨A1, c1, rfl, l1, (fun W' hW => by obtain ⟨A1_, c1_, he, l1_, g1_⟩ := k66_open (h W' hW); injection (Option.some.inj (show some (Value.slice A1 x.f1.length c1) = some (Value.slice A1_ x.f1.length c1_) from congrArg (fun l => l[1]?) he)) with ha_ _ _; rw [ha_]; exact g1_)⟩
theorem k66_mkF (W : World) (ok : Nat → Prop) (x : S66) {A1 : Option Addr} {c1 : Nat} (l1 : x.f1.length ≤ c1) (g1 : Kd.F k25 W ok A1 x.f1.length x.f1) : Kd.FK k66 W ok x [.int .i64 x.f0, .slice A1 x.f1.length c1] := fun W2 hW => k66_mk W2 x l1 (g1 W2 hW)
def rd_T66 (xs : List S66) (i : Int) : S66 := xs.getD i.toNat z66
theorem at_T66 {w : World} {A : Option Addr} {n : Nat} {xs : List S66} (h : Kd.C k66 w A n xs) (i : Int) (h0 : 0 ≤ i) (h1 : i < n) : ∃ ad A1 c1, A = some ad ∧ w.cell? (ad.add (i.toNat * 2)) = some (.int .i64 (rd_T66 xs i).f0) ∧ w.cell? ⟨(ad.add (i.toNat * 2)).block, (ad.add (i.toNat * 2)).off + 1, none⟩ = some (.slice A1 (rd_T66 xs i).f1.length c1) ∧ (rd_T66 xs i).f1.length ≤ c1 ∧ k25.C w A1 (rd_T66 xs i).f1.length (rd_T66 xs i).f1 := by
  obtain ⟨ad, c, e, _, hK, hc0⟩ := Kd.C_get h z66 i h0 h1
  have hc : ∀ j u, c[j]? = some u → w.cell? (ad.add (i.toNat * 2 + j)) = some u := hc0
  obtain ⟨A1, c1, rfl, l1, g1⟩ := k66_open hK
  exact ⟨ad, A1, c1, e, hc 0 _ rfl, by rw [← add_field _ _ 1 (by omega)]; exact hc 1 _ rfl, l1, g1⟩

/-! #### struct type 67 -/
structure S67 where
  f0 : Int
  f1 : (List S25)
def z67 : S67 := ⟨(0 : Int), ([] : List S25)⟩
def k67 : Kd S67 := Kd.iso (Kd.pair (Kd.int .i64) (Kd.slice 25 k25)) (fun x : S67 => (x.f0, x.f1))
theorem k67_heap : Kd.Heap k67 := Kd.heap_iso _ (Kd.heap_pair (Kd.heap_int .i64) (Kd.heap_slice 25 k25_heap))
theorem k67_open {w : World} {x : S67} {cs : List Value} (h : k67.K w x cs) : ∃ A1 c1, cs = [.int .i64 x.f0, .slice A1 x.f1.length c1] ∧ x.f1.length ≤ c1 ∧ k25.C w A1 x.f1.length x.f1 := by
  obtain ⟨_, _, rfl, rfl, ⟨A1, c1, rfl, l1, g1⟩⟩ := h
  exact ⟨A1, c1, rfl, l1, g1⟩
theorem k67_openM {w : World} {base : Nat} {ok : Nat → Prop} {x : S67} {cs : List Value} (h : k67.M w base ok x cs) : ∃ v1, cs = [.int .i64 x.f0, v1] ∧ k25.R 25 w base ok v1 x.f1 := by
  obtain ⟨_, _, rfl, rfl, ⟨v1, rfl, g1⟩⟩ := h
  exact ⟨v1, rfl, g1⟩
theorem k67_mk (w : World) (x : S67) {A1 : Option Addr} {c1 : Nat} (l1 : x.f1.length ≤ c1) (g1 : k25.C w A1 x.f1.length x.f1) : k67.K w x [.int .i64 x.f0, .slice A1 x.f1.length c1] := ⟨[.int .i64 x.f0], [.slice A1 x.f1.length c1], rfl, rfl, ⟨A1, c1, rfl, l1, g1⟩⟩
theorem k67_mkM (w : World) (base : Nat) (ok : Nat → Prop) (x : S67) {v1 : Value} (g1 : k25.R 25 w base ok v1 x.f1) : k67.M w base ok x [.int .i64 x.f0, v1] := ⟨[.int .i64 x.f0], [v1], rfl, rfl, ⟨v1, rfl, g1⟩⟩
theorem k67_openF {W : World} {ok : Nat → Prop} {x : S67} {cs : List Value} (h : Kd.FK k67 W ok x cs) : ∃ A1 c1, cs = [.int .i64 x.f0, .slice A1 x.f1.length c1] ∧ x.f1.length ≤ c1 ∧ Kd.F k25 W ok A1 x.f1.length x.f1 := by
  obtain ⟨A1, c1, rfl, l1, _⟩ := k67_open (Kd.FK_now h)
  exact ⟨A1, c1, rfl, l1, (fun W' hW => by obtain ⟨A1_, c1_, he, l1_, g1_⟩ := k67_open (h W' hW); injection (Option.some.inj (show some (Value.slice A1 x.f1.length c1) = some (Value.slice A1_ x.f1.length c1_) from congrArg (fun l => l[1]?) he)) with ha_ _ _; rw [ha_]; exact g1_)⟩
theorem k67_mkF (W : World) (ok : Nat → Prop) (x : S67) {A1 : Option Addr} {c1 : Nat} (l1 : x.f1.length ≤ c1) (g1 : Kd.F k25 W ok A1 x.f1.length x.f1) : Kd.FK k67 W ok x [.int .i64 x.f0, .slice A1 x.f1.length c1] := fun W2 hW => k67_mk W2 x l1 (g1 W2 hW)
def rd_T67 (xs : List S67) (i : Int) : S67 := xs.getD i.toNat z67
theorem at_T67 {w : World} {A : Option Addr} {n : Nat} {xs : List S67} (h : Kd.C k67 w A n xs) (i : Int) (h0 : 0 ≤ i) (h1 : i < n) : ∃ ad A1 c1, A = some ad ∧ w.cell? (ad.add (i.toNat * 2)) = some (.int .i64 (rd_T67 xs i).f0) ∧ w.cell? ⟨(ad.add (i.toNat * 2)).block, (ad.add (i.toNat * 2)).off + 1, none⟩ = some (.slice A1 (rd_T67 xs i).f1.length c1) ∧ (rd_T67 xs i).f1.length ≤ c1 ∧ k25.C w A1 (rd_T67 xs i).f1.length (rd_T67 xs i).f1 := by
  obtain ⟨ad, c, e, _, hK, hc0⟩ := Kd.C_get h z67 i h0 h1
  have hc : ∀ j u, c[j]? = some u → w.cell? (ad.add (i.toNat * 2 + j)) = some u := hc0
  obtain ⟨A1, c1, rfl, l1, g1⟩ := k67_open hK
  exact ⟨ad, A1, c1, e, hc 0 _ rfl, by rw [← add_field _ _ 1 (by omega)]; exact hc 1 _ rfl, l1, g1⟩

def rd_LKd_slice_5_Kd_int_u8 (xs : List (List Int)) (i : Int) : (List Int) := xs.getD i.toNat ([] : List Int)
theorem at_LKd_slice_5_Kd_int_u8 {w : World} {A : Option Addr} {n : Nat} {xs : List (List Int)} (h : Kd.C (Kd.slice 5 (Kd.int .u8)) w A n xs) (i : Int) (h0 : 0 ≤ i) (h1 : i < n) : ∃ ad A0 c0, A = some ad ∧ w.cell? (ad.add i.toNat) = some (.slice A0 (rd_LKd_slice_5_Kd_int_u8 xs i).length c0) ∧ (rd_LKd_slice_5_Kd_int_u8 xs i).length ≤ c0 ∧ (Kd.int .u8).C w A0 (rd_LKd_slice_5_Kd_int_u8 xs i).length (rd_LKd_slice_5_Kd_int_u8 xs i) := by
  obtain ⟨ad, c, e, _, hK, hc0⟩ := Kd.C_get h ([] : List Int) i h0 h1
  have hc : ∀ j u, c[j]? = some u → w.cell? (ad.add (i.toNat * 1 + j)) = some u := hc0
  obtain ⟨A0, c0, rfl, l0, g0⟩ := hK
  exact ⟨ad, A0, c0, e, by have hq := hc 0 _ rfl; rwa [Nat.mul_one, Nat.add_zero] at hq, l0, g0⟩

/-! #### struct type 76 -/
structure S76 where
  f0 : ByteArray
  f1 : (List ByteArray)
def z76 : S76 := ⟨(⟨#[]⟩ : ByteArray), ([] : List ByteArray)⟩
def k76 : Kd S76 := Kd.iso (Kd.pair Kd.string (Kd.slice 9 Kd.string)) (fun x : S76 => (x.f0, x.f1))
theorem k76_heap : Kd.Heap k76 := Kd.heap_iso _ (Kd.heap_pair Kd.heap_string (Kd.heap_slice 9 Kd.heap_string))
theorem k76_open {w : World} {x : S76} {cs : List Value} (h : k76.K w x cs) : ∃ A1 c1, cs = [.string x.f0, .slice A1 x.f1.length c1] ∧ x.f1.length ≤ c1 ∧ Kd.string.C w A1 x.f1.length x.f1 := by
  obtain ⟨_, _, rfl, rfl, ⟨A1, c1, rfl, l1, g1⟩⟩ := h
  exact ⟨A1, c1, rfl, l1, g1⟩
theorem k76_openM {w : World} {base : Nat} {ok : Nat → Prop} {x : S76} {cs : List Value} (h : k76.M w base ok x cs) : ∃ v1, cs = [.string x.f0, v1] ∧ Kd.string.R 9 w base ok v1 x.f1 := by
  obtain ⟨_, _, rfl, rfl, ⟨v1, rfl, g1⟩⟩ := h
  exact ⟨v1, rfl, g1⟩
theorem k76_mk (w : World) (x : S76) {A1 : Option Addr} {c1 : Nat} (l1 : x.f1.length ≤ c1) (g1 : Kd.string.C w A1 x.f1.length x.f1) : k76.K w x [.string x.f0, .slice A1 x.f1.length c1] := ⟨[.string x.f0], [.slice A1 x.f1.length c1], rfl, rfl, ⟨A1, c1, rfl, l1, g1⟩⟩
theorem k76_mkM (w : World) (base : Nat) (ok : Nat → Prop) (x : S76) {v1 : Value} (g1 : Kd.string.R 9 w base ok v1 x.f1) : k76.M w base ok x [.string x.f0, v1] := ⟨[.string x.f0], [v1], rfl, rfl, ⟨v1, rfl, g1⟩⟩
theorem k76_openF {W : World} {ok : Nat → Prop} {x : S76} {cs : List Value} (h : Kd.FK k76 W ok x cs) : ∃ A1 c1, cs = [.string x.f0, .slice A1 x.f1.length c1] ∧ x.f1.length ≤ c1 ∧ Kd.F Kd.string W ok A1 x.f1.length x.f1 := by
  obtain ⟨A1, c1, rfl, l1, _⟩ := k76_open (Kd.FK_now h)
  exact ⟨A1, c1, rfl, l1, (fun W' hW => by obtain ⟨A1_, c1_, he, l1_, g1_⟩ := k76_open (h W' hW); injection (Option.some.inj (show some (Value.slice A1 x.f1.length c1) = some (Value.slice A1_ x.f1.length c1_) from congrArg (fun l => l[1]?) he)) with ha_ _ _; rw [ha_]; exact g1_)⟩
theorem k76_mkF (W : World) (ok : Nat → Prop) (x : S76) {A1 : Option Addr} {c1 : Nat} (l1 : x.f1.length ≤ c1) (g1 : Kd.F Kd.string W ok A1 x.f1.length x.f1) : Kd.FK k76 W ok x [.string x.f0, .slice A1 x.f1.length c1] := fun W2 hW => k76_mk W2 x l1 (g1 W2 hW)
def rd_T76 (xs : List S76) (i : Int) : S76 := xs.getD i.toNat z76
theorem at_T76 {w : World} {A : Option Addr} {n : Nat} {xs : List S76} (h : Kd.C k76 w A n xs) (i : Int) (h0 : 0 ≤ i) (h1 : i < n) : ∃ ad A1 c1, A = some ad ∧ w.cell? (ad.add (i.toNat * 2)) = some (.string (rd_T76 xs i).f0) ∧ w.cell? ⟨(ad.add (i.toNat * 2)).block, (ad.add (i.toNat * 2)).off + 1, none⟩ = some (.slice A1 (rd_T76 xs i).f1.length c1) ∧ (rd_T76 xs i).f1.length ≤ c1 ∧ Kd.string.C w A1 (rd_T76 xs i).f1.length (rd_T76 xs i).f1 := by
  obtain ⟨ad, c, e, _, hK, hc0⟩ := Kd.C_get h z76 i h0 h1
  have hc : ∀ j u, c[j]? = some u → w.cell? (ad.add (i.toNat * 2 + j)) = some u := hc0
  obtain ⟨A1, c1, rfl, l1, g1⟩ := k76_open hK
  exact ⟨ad, A1, c1, e, hc 0 _ rfl, by rw [← add_field _ _ 1 (by omega)]; exact hc 1 _ rfl, l1, g1⟩

/-! #### struct type 90 -/
structure S90 where
  f0 : ByteArray
  f1 : ByteArray
def z90 : S90 := ⟨(⟨#[]⟩ : ByteArray), (⟨#[]⟩ : ByteArray)⟩
def k90 : Kd S90 := Kd.iso (Kd.pair Kd.string Kd.string) (fun x : S90 => (x.f0, x.f1))
theorem k90_heap : Kd.Heap k90 := Kd.heap_iso _ (Kd.heap_pair Kd.heap_string Kd.heap_string)
theorem k90_open {w : World} {x : S90} {cs : List Value} (h : k90.K w x cs) : cs = [.string x.f0, .string x.f1] := by
  obtain ⟨_, _, rfl, rfl, rfl⟩ := h
  exact rfl
theorem k90_openM {w : World} {base : Nat} {ok : Nat → Prop} {x : S90} {cs : List Value} (h : k90.M w base ok x cs) : cs = [.string x.f0, .string x.f1] := by
  obtain ⟨_, _, rfl, rfl, rfl⟩ := h
  exact rfl
theorem k90_mk (w : World) (x : S90)  : k90.K w x [.string x.f0, .string x.f1] := ⟨[.string x.f0], [.string x.f1], rfl, rfl, rfl⟩
theorem k90_mkM (w : World) (base : Nat) (ok : Nat → Prop) (x : S90)  : k90.M w base ok x [.string x.f0, .string x.f1] := ⟨[.string x.f0], [.string x.f1], rfl, rfl, rfl⟩
theorem k90_mkF (W : World) (ok : Nat → Prop) (x : S90) : Kd.FK k90 W ok x [.string x.f0, .string x.f1] := fun W2 _ => k90_mk W2 x
def rd_T90 (xs : List S90) (i : Int) : S90 := xs.getD i.toNat z90
theorem at_T90 {w : World} {A : Option Addr} {n : Nat} {xs : List S90} (h : Kd.C k90 w A n xs) (i : Int) (h0 : 0 ≤ i) (h1 : i < n) : ∃ ad , A = some ad ∧ w.cell? (ad.add (i.toNat * 2)) = some (.string (rd_T90 xs i).f0) ∧ w.cell? ⟨(ad.add (i.toNat * 2)).block, (ad.add (i.toNat * 2)).off + 1, none⟩ = some (.string (rd_T90 xs i).f1) := by
  obtain ⟨ad, c, e, _, hK, hc0⟩ := Kd.C_get h z90 i h0 h1
  have hc : ∀ j u, c[j]? = some u → w.cell? (ad.add (i.toNat * 2 + j)) = some u := hc0
  obtain rfl := k90_open hK
  exact ⟨ad, e, hc 0 _ rfl, by rw [← add_field _ _ 1 (by omega)]; exact hc 1 _ rfl⟩

def rd_LKd_slice_90_k90 (xs : List (List S90)) (i : Int) : (List S90) := xs.getD i.toNat ([] : List S90)
theorem at_LKd_slice_90_k90 {w : World} {A : Option Addr} {n : Nat} {xs : List (List S90)} (h : Kd.C (Kd.slice 90 k90) w A n xs) (i : Int) (h0 : 0 ≤ i) (h1 : i < n) : ∃ ad A0 c0, A = some ad ∧ w.cell? (ad.add i.toNat) = some (.slice A0 (rd_LKd_slice_90_k90 xs i).length c0) ∧ (rd_LKd_slice_90_k90 xs i).length ≤ c0 ∧ k90.C w A0 (rd_LKd_slice_90_k90 xs i).length (rd_LKd_slice_90_k90 xs i) := by
  obtain ⟨ad, c, e, _, hK, hc0⟩ := Kd.C_get h ([] : List S90) i h0 h1
  have hc : ∀ j u, c[j]? = some u → w.cell? (ad.add (i.toNat * 1 + j)) = some u := hc0
  obtain ⟨A0, c0, rfl, l0, g0⟩ := hK
  exact ⟨ad, A0, c0, e, by have hq := hc 0 _ rfl; rwa [Nat.mul_one, Nat.add_zero] at hq, l0, g0⟩

/-! #### struct type 154 -/
structure S154 where
  f0 : Int
  f1 : Int
def z154 : S154 := ⟨(0 : Int), (0 : Int)⟩
def k154 : Kd S154 := Kd.iso (Kd.pair (Kd.int .i64) (Kd.int .i64)) (fun x : S154 => (x.f0, x.f1))
theorem k154_heap : Kd.Heap k154 := Kd.heap_iso _ (Kd.heap_pair (Kd.heap_int .i64) (Kd.heap_int .i64))
theorem k154_open {w : World} {x : S154} {cs : List Value} (h : k154.K w x cs) : cs = [.int .i64 x.f0, .int .i64 x.f1] := by
  obtain ⟨_, _, rfl, rfl, rfl⟩ := h
  exact rfl
theorem k154_openM {w : World} {base : Nat} {ok : Nat → Prop} {x : S154} {cs : List Value} (h : k154.M w base ok x cs) : cs = [.int .i64 x.f0, .int .i64 x.f1] := by
  obtain ⟨_, _, rfl, rfl, rfl⟩ := h
  exact rfl
theorem k154_mk (w : World) (x : S154)  : k154.K w x [.int .i64 x.f0, .int .i64 x.f1] := ⟨[.int .i64 x.f0], [.int .i64 x.f1], rfl, rfl, rfl⟩
theorem k154_mkM (w : World) (base : Nat) (ok : Nat → Prop) (x : S154)  : k154.M w base ok x [.int .i64 x.f0, .int .i64 x.f1] := ⟨[.int .i64 x.f0], [.int .i64 x.f1], rfl, rfl, rfl⟩
theorem k154_mkF (W : World) (ok : Nat → Prop) (x : S154) : Kd.FK k154 W ok x [.int .i64 x.f0, .int .i64 x.f1] := fun W2 _ => k154_mk W2 x
def rd_T154 (xs : List S154) (i : Int) : S154 := xs.getD i.toNat z154
theorem at_T154 {w : World} {A : Option Addr} {n : Nat} {xs : List S154} (h : Kd.C k154 w A n xs) (i : Int) (h0 : 0 ≤ i) (h1 : i < n) : ∃ ad , A = some ad ∧ w.cell? (ad.add (i.toNat * 2)) = some (.int .i64 (rd_T154 xs i).f0) ∧ w.cell? ⟨(ad.add (i.toNat * 2)).block, (ad.add (i.toNat * 2)).off + 1, none⟩ = some (.int .i64 (rd_T154 xs i).f1) := by
  obtain ⟨ad, c, e, _, hK, hc0⟩ := Kd.C_get h z154 i h0 h1
  have hc : ∀ j u, c[j]? = some u → w.cell? (ad.add (i.toNat * 2 + j)) = some u := hc0
  obtain rfl := k154_open hK
  exact ⟨ad, e, hc 0 _ rfl, by rw [← add_field _ _ 1 (by omega)]; exact hc 1 _ rfl⟩

def rd_LKd_slice_154_k154 (xs : List (List S154)) (i : Int) : (List S154) := xs.getD i.toNat ([] : List S154)
theorem at_LKd_slice_154_k154 {w : World} {A : Option Addr} {n : Nat} {xs : List (List S154)} (h : Kd.C (Kd.slice 154 k154) w A n xs) (i : Int) (h0 : 0 ≤ i) (h1 : i < n) : ∃ ad A0 c0, A = some ad ∧ w.cell? (ad.add i.toNat) = some (.slice A0 (rd_LKd_slice_154_k154 xs i).length c0) ∧ (rd_LKd_slice_154_k154 xs i).length ≤ c0 ∧ k154.C w A0 (rd_LKd_slice_154_k154 xs i).length (rd_LKd_slice_154_k154 xs i) := by
  obtain ⟨ad, c, e, _, hK, hc0⟩ := Kd.C_get h ([] : List S154) i h0 h1
  have hc : ∀ j u, c[j]? = some u → w.cell? (ad.add (i.toNat * 1 + j)) = some u := hc0
  obtain ⟨A0, c0, rfl, l0, g0⟩ := hK
  exact ⟨ad, A0, c0, e, by have hq := hc 0 _ rfl; rwa [Nat.mul_one, Nat.add_zero] at hq, l0, g0⟩

/-! #### struct type 153 -/
structure S153 where
  f0 : Int
  f1 : Int
def z153 : S153 := ⟨(0 : Int), (0 : Int)⟩
def k153 : Kd S153 := Kd.iso (Kd.pair (Kd.int .i64) (Kd.int .i64)) (fun x : S153 => (x.f0, x.f1))
theorem k153_heap : Kd.Heap k153 := Kd.heap_iso _ (Kd.heap_pair (Kd.heap_int .i64) (Kd.heap_int .i64))
theorem k153_open {w : World} {x : S153} {cs : List Value} (h : k153.K w x cs) : cs = [.int .i64 x.f0, .int .i64 x.f1] := by
  obtain ⟨_, _, rfl, rfl, rfl⟩ := h
  exact rfl
theorem k153_openM {w : World} {base : Nat} {ok : Nat → Prop} {x : S153} {cs : List Value} (h : k153.M w base ok x cs) : cs = [.int .i64 x.f0, .int .i64 x.f1] := by
  obtain ⟨_, _, rfl, rfl, rfl⟩ := h
  exact rfl
theorem k153_mk (w : World) (x : S153)  : k153.K w x [.int .i64 x.f0, .int .i64 x.f1] := ⟨[.int .i64 x.f0], [.int .i64 x.f1], rfl, rfl, rfl⟩
theorem k153_mkM (w : World) (base : Nat) (ok : Nat → Prop) (x : S153)  : k153.M w base ok x [.int .i64 x.f0, .int .i64 x.f1] := ⟨[.int .i64 x.f0], [.int .i64 x.f1], rfl, rfl, rfl⟩
theorem k153_mkF (W : World) (ok : Nat → Prop) (x : S153) : Kd.FK k153 W ok x [.int .i64 x.f0, .int .i64 x.f1] := fun W2 _ => k153_mk W2 x
def rd_T153 (xs : List S153) (i : Int) : S153 := xs.getD i.toNat z153
theorem at_T153 {w : World} {A : Option Addr} {n : Nat} {xs : List S153} (h : Kd.C k153 w A n xs) (i : Int) (h0 : 0 ≤ i) (h1 : i < n) : ∃ ad , A = some ad ∧ w.cell? (ad.add (i.toNat * 2)) = some (.int .i64 (rd_T153 xs i).f0) ∧ w.cell? ⟨(ad.add (i.toNat * 2)).block, (ad.add (i.toNat * 2)).off + 1, none⟩ = some (.int .i64 (rd_T153 xs i).f1) := by
  obtain ⟨ad, c, e, _, hK, hc0⟩ := Kd.C_get h z153 i h0 h1
  have hc : ∀ j u, c[j]? = some u → w.cell? (ad.add (i.toNat * 2 + j)) = some u := hc0
  obtain rfl := k153_open hK
  exact ⟨ad, e, hc 0 _ rfl, by rw [← add_field _ _ 1 (by omega)]; exact hc 1 _ rfl⟩

/-! #### struct type 171 -/
structure S171 where
  f0 : Int
  f1 : Int
  f2 : Int
  f3 : Int
  f4 : Int
  f5 : Int
  f6 : Int
  f7 : Int
def z171 : S171 := ⟨(0 : Int), (0 : Int), (0 : Int), (0 : Int), (0 : Int), (0 : Int), (0 : Int), (0 : Int)⟩
def k171 : Kd S171 := Kd.iso (Kd.pair (Kd.int .u16) (Kd.pair (Kd.int .u16) (Kd.pair (Kd.int .u16) (Kd.pair (Kd.int .u16) (Kd.pair (Kd.int .u16) (Kd.pair (Kd.int .u16) (Kd.pair (Kd.int .u16) (Kd.int .u16)))))))) (fun x : S171 => (x.f0, x.f1, x.f2, x.f3, x.f4, x.f5, x.f6, x.f7))
theorem k171_heap : Kd.Heap k171 := Kd.heap_iso _ (Kd.heap_pair (Kd.heap_int .u16) (Kd.heap_pair (Kd.heap_int .u16) (Kd.heap_pair (Kd.heap_int .u16) (Kd.heap_pair (Kd.heap_int .u16) (Kd.heap_pair (Kd.heap_int .u16) (Kd.heap_pair (Kd.heap_int .u16) (Kd.heap_pair (Kd.heap_int .u16) (Kd.heap_int .u16))))))))
theorem k171_open {w : World} {x : S171} {cs : List Value} (h : k171.K w x cs) : cs = [.int .u16 x.f0, .int .u16 x.f1, .int .u16 x.f2, .int .u16 x.f3, .int .u16 x.f4, .int .u16 x.f5, .int .u16 x.f6, .int .u16 x.f7] := by
  obtain ⟨_, _, rfl, rfl, ⟨_, _, rfl, rfl, ⟨_, _, rfl, rfl, ⟨_, _, rfl, rfl, ⟨_, _, rfl, rfl, ⟨_, _, rfl, rfl, ⟨_, _, rfl, rfl, rfl⟩⟩⟩⟩⟩⟩⟩ := h
  exact rfl
theorem k171_openM {w : World} {base : Nat} {ok : Nat → Prop} {x : S171} {cs : List Value} (h : k171.M w base ok x cs) : cs = [.int .u16 x.f0, .int .u16 x.f1, .int .u16 x.f2, .int .u16 x.f3, .int .u16 x.f4, .int .u16 x.f5, .int .u16 x.f6, .int .u16 x.f7] := by
  obtain ⟨_, _, rfl, rfl, ⟨_, _, rfl, rfl, ⟨_, _, rfl, rfl, ⟨_, _, rfl, rfl, ⟨_, _, rfl, rfl, ⟨_, _, rfl, rfl, ⟨_, _, rfl, rfl, rfl⟩⟩⟩⟩⟩⟩⟩ := h
  exact rfl
theorem k171_mk (w : World) (x : S171)  : k171.K w x [.int .u16 x.f0, .int .u16 x.f1, .int .u16 x.f2, .int .u16 x.f3, .int .u16 x.f4, .int .u16 x.f5, .int .u16 x.f6, .int .u16 x.f7] := ⟨[.int .u16 x.f0], [.int .u16 x.f1, .int .u16 x.f2, .int .u16 x.f3, .int .u16 x.f4, .int .u16 x.f5, .int .u16 x.f6, .int .u16 x.f7], rfl, rfl, ⟨[.int .u16 x.f1], [.int .u16 x.f2, .int .u16 x.f3, .int .u16 x.f4, .int .u16 x.f5, .int .u16 x.f6, .int .u16 x.f7], rfl, rfl, ⟨[.int .u16 x.f2], [.int .u16 x.f3, .int .u16 x.f4, .int .u16 x.f5, .int .u16 x.f6, .int .u16 x.f7], rfl, rfl, ⟨[.int .u16 x.f3], [.int .u16 x.f4, .int .u16 x.f5, .int .u16 x.f6, .int .u16 x.f7], rfl, rfl, ⟨[.int .u16 x.f4], [.int .u16 x.f5, .int .u16 x.f6, .int .u16 x.f7], rfl, rfl, ⟨[.int .u16 x.f5], [.int .u16 x.f6, .int .u16 x.f7], rfl, rfl, ⟨[.int .u16 x.f6], [.int .u16 x.f7], rfl, rfl, rfl⟩⟩⟩⟩⟩⟩⟩
theorem k171_mkM (w : World) (base : Nat) (ok : Nat → Prop) (x : S171)  : k171.M w base ok x [.int .u16 x.f0, .int .u16 x.f1, .int .u16 x.f2, .int .u16 x.f3, .int .u16 x.f4, .int .u16 x.f5, .int .u16 x.f6, .int .u16 x.f7] := ⟨[.int .u16 x.f0], [.int .u16 x.f1, .int .u16 x.f2, .int .u16 x.f3, .int .u16 x.f4, .int .u16 x.f5, .int .u16 x.f6, .int .u16 x.f7], rfl, rfl, ⟨[.int .u16 x.f1], [.int .u16 x.f2, .int .u16 x.f3, .int .u16 x.f4, .int .u16 x.f5, .int .u16 x.f6, .int .u16 x.f7], rfl, rfl, ⟨[.int .u16 x.f2], [.int .u16 x.f3, .int .u16 x.f4, .int .u16 x.f5, .int .u16 x.f6, .int .u16 x.f7], rfl, rfl, ⟨[.int .u16 x.f3], [.int .u16 x.f4, .int .u16 x.f5, .int .u16 x.f6, .int .u16 x.f7], rfl, rfl, ⟨[.int .u16 x.f4], [.int .u16 x.f5, .int .u16 x.f6, .int .u16 x.f7], rfl, rfl, ⟨[.int .u16 x.f5], [.int .u16 x.f6, .int .u16 x.f7], rfl, rfl, ⟨[.int .u16 x.f6], [.int .u16 x.f7], rfl, rfl, rfl⟩⟩⟩⟩⟩⟩⟩
theorem k171_mkF (W : World) (ok : Nat → Prop) (x : S171) : Kd.FK k171 W ok x [.int .u16 x.f0, .int .u16 x.f1, .int .u16 x.f2, .int .u16 x.f3, .int .u16 x.f4, .int .u16 x.f5, .int .u16 x.f6, .int .u16 x.f7] := fun W2 _ => k171_mk W2 x
def rd_T171 (xs : List S171) (i : Int) : S171 := xs.getD i.toNat z171
theorem at_T171 {w : World} {A : Option Addr} {n : Nat} {xs : List S171} (h : Kd.C k171 w A n xs) (i : Int) (h0 : 0 ≤ i) (h1 : i < n) : ∃ ad , A = some ad ∧ w.cell? (ad.add (i.toNat * 8)) = some (.int .u16 (rd_T171 xs i).f0) ∧ w.cell? ⟨(ad.add (i.toNat * 8)).block, (ad.add (i.toNat * 8)).off + 1, none⟩ = some (.int .u16 (rd_T171 xs i).f1) ∧ w.cell? ⟨(ad.add (i.toNat * 8)).block, (ad.add (i.toNat * 8)).off + 2, none⟩ = some (.int .u16 (rd_T171 xs i).f2) ∧ w.cell? ⟨(ad.add (i.toNat * 8)).block, (ad.add (i.toNat * 8)).off + 3, none⟩ = some (.int .u16 (rd_T171 xs i).f3) ∧ w.cell? ⟨(ad.add (i.toNat * 8)).block, (ad.add (i.toNat * 8)).off + 4, none⟩ = some (.int .u16 (rd_T171 xs i).f4) ∧ w.cell? ⟨(ad.add (i.toNat * 8)).block, (ad.add (i.toNat * 8)).off + 5, none⟩ = some (.int .u16 (rd_T171 xs i).f5) ∧ w.cell? ⟨(ad.add (i.toNat * 8)).block, (ad.add (i.toNat * 8)).off + 6, none⟩ = some (.int .u16 (rd_T171 xs i).f6) ∧ w.cell? ⟨(ad.add (i.toNat * 8)).block, (ad.add (i.toNat * 8)).off + 7, none⟩ = some (.int .u16 (rd_T171 xs i).f7) := by
  obtain ⟨ad, c, e, _, hK, hc0⟩ := Kd.C_get h z171 i h0 h1
  have hc : ∀ j u, c[j]? = some u → w.cell? (ad.add (i.toNat * 8 + j)) = some u := hc0
  obtain rfl := k171_open hK
  exact ⟨ad, e, hc 0 _ rfl, by rw [← add_field _ _ 1 (by omega)]; exact hc 1 _ rfl, by rw [← add_field _ _ 2 (by omega)]; exact hc 2 _ rfl, by rw [← add_field _ _ 3 (by omega)]; exact hc 3 _ rfl, by rw [← add_field _ _ 4 (by omega)]; exact hc 4 _ rfl, by rw [← add_field _ _ 5 (by omega)]; exact hc 5 _ rfl, by rw [← add_field _ _ 6 (by omega)]; exact hc 6 _ rfl, by rw [← add_field _ _ 7 (by omega)]; exact hc 7 _ rfl⟩

def rd_LKd_slice_170_Kd_int_u16 (xs : List (List Int)) (i : Int) : (List Int) := xs.getD i.toNat ([] : List Int)
theorem at_LKd_slice_170_Kd_int_u16 {w : World} {A : Option Addr} {n : Nat} {xs : List (List Int)} (h : Kd.C (Kd.slice 170 (Kd.int .u16)) w A n xs) (i : Int) (h0 : 0 ≤ i) (h1 : i < n) : ∃ ad A0 c0, A = some ad ∧ w.cell? (ad.add i.toNat) = some (.slice A0 (rd_LKd_slice_170_Kd_int_u16 xs i).length c0) ∧ (rd_LKd_slice_170_Kd_int_u16 xs i).length ≤ c0 ∧ (Kd.int .u16).C w A0 (rd_LKd_slice_170_Kd_int_u16 xs i).length (rd_LKd_slice_170_Kd_int_u16 xs i) := by
  obtain ⟨ad, c, e, _, hK, hc0⟩ := Kd.C_get h ([] : List Int) i h0 h1
  have hc : ∀ j u, c[j]? = some u → w.cell? (ad.add (i.toNat * 1 + j)) = some u := hc0
  obtain ⟨A0, c0, rfl, l0, g0⟩ := hK
  exact ⟨ad, A0, c0, e, by have hq := hc 0 _ rfl; rwa [Nat.mul_one, Nat.add_zero] at hq, l0, g0⟩

/-! #### struct type 194 -/
structure S194 where
  f0 : Int
  f1 : Int
def z194 : S194 := ⟨(0 : Int), (0 : Int)⟩
def k194 : Kd S194 := Kd.iso (Kd.pair (Kd.int .u8) (Kd.int .u8)) (fun x : S194 => (x.f0, x.f1))
theorem k194_heap : Kd.Heap k194 := Kd.heap_iso _ (Kd.heap_pair (Kd.heap_int .u8) (Kd.heap_int .u8))
theorem k194_open {w : World} {x : S194} {cs : List Value} (h : k194.K w x cs) : cs = [.int .u8 x.f0, .int .u8 x.f1] := by
  obtain ⟨_, _, rfl, rfl, rfl⟩ := h
  exact rfl
theorem k194_openM {w : World} {base : Nat} {ok : Nat → Prop} {x : S194} {cs : List Value} (h : k194.M w base ok x cs) : cs = [.int .u8 x.f0, .int .u8 x.f1] := by
  obtain ⟨_, _, rfl, rfl, rfl⟩ := h
  exact rfl
theorem k194_mk (w : World) (x : S194)  : k194.K w x [.int .u8 x.f0, .int .u8 x.f1] := ⟨[.int .u8 x.f0], [.int .u8 x.f1], rfl, rfl, rfl⟩
theorem k194_mkM (w : World) (base : Nat) (ok : Nat → Prop) (x : S194)  : k194.M w base ok x [.int .u8 x.f0, .int .u8 x.f1] := ⟨[.int .u8 x.f0], [.int .u8 x.f1], rfl, rfl, rfl⟩
theorem k194_mkF (W : World) (ok : Nat → Prop) (x : S194) : Kd.FK k194 W ok x [.int .u8 x.f0, .int .u8 x.f1] := fun W2 _ => k194_mk W2 x
def rd_T194 (xs : List S194) (i : Int) : S194 := xs.getD i.toNat z194
theorem at_T194 {w : World} {A : Option Addr} {n : Nat} {xs : List S194} (h : Kd.C k194 w A n xs) (i : Int) (h0 : 0 ≤ i) (h1 : i < n) : ∃ ad , A = some ad ∧ w.cell? (ad.add (i.toNat * 2)) = some (.int .u8 (rd_T194 xs i).f0) ∧ w.cell? ⟨(ad.add (i.toNat * 2)).block, (ad.add (i.toNat * 2)).off + 1, none⟩ = some (.int .u8 (rd_T194 xs i).f1) := by
  obtain ⟨ad, c, e, _, hK, hc0⟩ := Kd.C_get h z194 i h0 h1
  have hc : ∀ j u, c[j]? = some u → w.cell? (ad.add (i.toNat * 2 + j)) = some u := hc0
  obtain rfl := k194_open hK
  exact ⟨ad, e, hc 0 _ rfl, by rw [← add_field _ _ 1 (by omega)]; exact hc 1 _ rfl⟩

/-! #### struct type 195 -/
structure S195 where
  f0 : Int
  f1 : Int
def z195 : S195 := ⟨(0 : Int), (0 : Int)⟩
def k195 : Kd S195 := Kd.iso (Kd.pair (Kd.int .u8) (Kd.int .u8)) (fun x : S195 => (x.f0, x.f1))
theorem k195_heap : Kd.Heap k195 := Kd.heap_iso _ (Kd.heap_pair (Kd.heap_int .u8) (Kd.heap_int .u8))
theorem k195_open {w : World} {x : S195} {cs : List Value} (h : k195.K w x cs) : cs = [.int .u8 x.f0, .int .u8 x.f1] := by
  obtain ⟨_, _, rfl, rfl, rfl⟩ := h
  exact rfl
theorem k195_openM {w : World} {base : Nat} {ok : Nat → Prop} {x : S195} {cs : List Value} (h : k195.M w base ok x cs) : cs = [.int .u8 x.f0, .int .u8 x.f1] := by
  obtain ⟨_, _, rfl, rfl, rfl⟩ := h
  exact rfl
theorem k195_mk (w : World) (x : S195)  : k195.K w x [.int .u8 x.f0, .int .u8 x.f1] := ⟨[.int .u8 x.f0], [.int .u8 x.f1], rfl, rfl, rfl⟩
theorem k195_mkM (w : World) (base : Nat) (ok : Nat → Prop) (x : S195)  : k195.M w base ok x [.int .u8 x.f0, .int .u8 x.f1] := ⟨[.int .u8 x.f0], [.int .u8 x.f1], rfl, rfl, rfl⟩
theorem k195_mkF (W : World) (ok : Nat → Prop) (x : S195) : Kd.FK k195 W ok x [.int .u8 x.f0, .int .u8 x.f1] := fun W2 _ => k195_mk W2 x
def rd_T195 (xs : List S195) (i : Int) : S195 := xs.getD i.toNat z195
theorem at_T195 {w : World} {A : Option Addr} {n : Nat} {xs : List S195} (h : Kd.C k195 w A n xs) (i : Int) (h0 : 0 ≤ i) (h1 : i < n) : ∃ ad , A = some ad ∧ w.cell? (ad.add (i.toNat * 2)) = some (.int .u8 (rd_T195 xs i).f0) ∧ w.cell? ⟨(ad.add (i.toNat * 2)).block, (ad.add (i.toNat * 2)).off + 1, none⟩ = some (.int .u8 (rd_T195 xs i).f1) := by
  obtain ⟨ad, c, e, _, hK, hc0⟩ := Kd.C_get h z195 i h0 h1
  have hc : ∀ j u, c[j]? = some u → w.cell? (ad.add (i.toNat * 2 + j)) = some u := hc0
  obtain rfl := k195_open hK
  exact ⟨ad, e, hc 0 _ rfl, by rw [← add_field _ _ 1 (by omega)]; exact hc 1 _ rfl⟩

/-! #### struct type 196 -/
structure S196 where
  f0 : S195
  f1 : S195
  f2 : S195
  f3 : S195
  f4 : S195
  f5 : S195
  f6 : S195
  f7 : S195
  f8 : S195
  f9 : S195
  f10 : S195
  f11 : S195
  f12 : S195
  f13 : S195
  f14 : S195
  f15 : S195
def z196 : S196 := ⟨z195, z195, z195, z195, z195, z195, z195, z195, z195, z195, z195, z195, z195, z195, z195, z195⟩
def k196 : Kd S196 := Kd.iso (Kd.pair k195 (Kd.pair k195 (Kd.pair k195 (Kd.pair k195 (Kd.pair k195 (Kd.pair k195 (Kd.pair k195 (Kd.pair k195 (Kd.pair k195 (Kd.pair k195 (Kd.pair k195 (Kd.pair k195 (Kd.pair k195 (Kd.pair k195 (Kd.pair k195 k195))))))))))))))) (fun x : S196 => (x.f0, x.f1, x.f2, x.f3, x.f4, x.f5, x.f6, x.f7, x.f8, x.f9, x.f10, x.f11, x.f12, x.f13, x.f14, x.f15))
theorem k196_heap : Kd.Heap k196 := Kd.heap_iso _ (Kd.heap_pair k195_heap (Kd.heap_pair k195_heap (Kd.heap_pair k195_heap (Kd.heap_pair k195_heap (Kd.heap_pair k195_heap (Kd.heap_pair k195_heap (Kd.heap_pair k195_heap (Kd.heap_pair k195_heap (Kd.heap_pair k195_heap (Kd.heap_pair k195_heap (Kd.heap_pair k195_heap (Kd.heap_pair k195_heap (Kd.heap_pair k195_heap (Kd.heap_pair k195_heap (Kd.heap_pair k195_heap k195_heap)))))))))))))))
theorem k196_open {w : World} {x : S196} {cs : List Value} (h : k196.K w x cs) : cs = [.int .u8 x.f0.f0, .int .u8 x.f0.f1, .int .u8 x.f1.f0, .int .u8 x.f1.f1, .int .u8 x.f2.f0, .int .u8 x.f2.f1, .int .u8 x.f3.f0, .int .u8 x.f3.f1, .int .u8 x.f4.f0, .int .u8 x.f4.f1, .int .u8 x.f5.f0, .int .u8 x.f5.f1, .int .u8 x.f6.f0, .int .u8 x.f6.f1, .int .u8 x.f7.f0, .int .u8 x.f7.f1, .int .u8 x.f8.f0, .int .u8 x.f8.f1, .int .u8 x.f9.f0, .int .u8 x.f9.f1, .int .u8 x.f10.f0, .int .u8 x.f10.f1, .int .u8 x.f11.f0, .int .u8 x.f11.f1, .int .u8 x.f12.f0, .int .u8 x.f12.f1, .int .u8 x.f13.f0, .int .u8 x.f13.f1, .int .u8 x.f14.f0, .int .u8 x.f14.f1, .int .u8 x.f15.f0, .int .u8 x.f15.f1] := by
  obtain ⟨_, _, rfl, s0, ⟨_, _, rfl, s2, ⟨_, _, rfl, s4, ⟨_, _, rfl, s6, ⟨_, _, rfl, s8, ⟨_, _, rfl, s10, ⟨_, _, rfl, s12, ⟨_, _, rfl, s14, ⟨_, _, rfl, s16, ⟨_, _, rfl, s18, ⟨_, _, rfl, s20, ⟨_, _, rfl, s22, ⟨_, _, rfl, s24, ⟨_, _, rfl, s26, ⟨_, _, rfl, s28, s30⟩⟩⟩⟩⟩⟩⟩⟩⟩⟩⟩⟩⟩⟩⟩ := h
  obtain rfl := k195_open s0
  obtain rfl := k195_open s2
  obtain rfl := k195_open s4
  obtain rfl := k195_open s6
  obtain rfl := k195_open s8
  obtain rfl := k195_open s10
  obtain rfl := k195_open s12
  obtain rfl := k195_open s14
  obtain rfl := k195_open s16
  obtain rfl := k195_open s18
  obtain rfl := k195_open s20
  obtain rfl := k195_open s22
  obtain rfl := k195_open s24
  obtain rfl := k195_open s26
  obtain rfl := k195_open s28
  obtain rfl := k195_open s30
  exact rfl
theorem k196_openM {w : World} {base : Nat} {ok : Nat → Prop} {x : S196} {cs : List Value} (h : k196.M w base ok x cs) : cs = [.int .u8 x.f0.f0, .int .u8 x.f0.f1, .int .u8 x.f1.f0, .int .u8 x.f1.f1, .int .u8 x.f2.f0, .int .u8 x.f2.f1, .int .u8 x.f3.f0, .int .u8 x.f3.f1, .int .u8 x.f4.f0, .int .u8 x.f4.f1, .int .u8 x.f5.f0, .int .u8 x.f5.f1, .int .u8 x.f6.f0, .int .u8 x.f6.f1, .int .u8 x.f7.f0, .int .u8 x.f7.f1, .int .u8 x.f8.f0, .int .u8 x.f8.f1, .int .u8 x.f9.f0, .int .u8 x.f9.f1, .int .u8 x.f10.f0, .int .u8 x.f10.f1, .int .u8 x.f11.f0, .int .u8 x.f11.f1, .int .u8 x.f12.f0, .int .u8 x.f12.f1, .int .u8 x.f13.f0, .int .u8 x.f13.f1, .int .u8 x.f14.f0, .int .u8 x.f14.f1, .int .u8 x.f15.f0, .int .u8 x.f15.f1] := by
  obtain ⟨_, _, rfl, s0, ⟨_, _, rfl, s2, ⟨_, _, rfl, s4, ⟨_, _, rfl, s6, ⟨_, _, rfl, s8, ⟨_, _, rfl, s10, ⟨_, _, rfl, s12, ⟨_, _, rfl, s14, ⟨_, _, rfl, s16, ⟨_, _, rfl, s18, ⟨_, _, rfl, s20, ⟨_, _, rfl, s22, ⟨_, _, rfl, s24, ⟨_, _, rfl, s26, ⟨_, _, rfl, s28, s30⟩⟩⟩⟩⟩⟩⟩⟩⟩⟩⟩⟩⟩⟩⟩ := h
  obtain rfl := k195_openM s0
  obtain rfl := k195_openM s2
  obtain rfl := k195_openM s4
  obtain rfl := k195_openM s6
  obtain rfl := k195_openM s8
  obtain rfl := k195_openM s10
  obtain rfl := k195_openM s12
  obtain rfl := k195_openM s14
  obtain rfl := k195_openM s16
  obtain rfl := k195_openM s18
  obtain rfl := k195_openM s20
  obtain rfl := k195_openM s22
  obtain rfl := k195_openM s24
  obtain rfl := k195_openM s26
  obtain rfl := k195_openM s28
  obtain rfl := k195_openM s30
  exact rfl
theorem k196_mk (w : World) (x : S196)  : k196.K w x [.int .u8 x.f0.f0, .int .u8 x.f0.f1, .int .u8 x.f1.f0, .int .u8 x.f1.f1, .int .u8 x.f2.f0, .int .u8 x.f2.f1, .int .u8 x.f3.f0, .int .u8 x.f3.f1, .int .u8 x.f4.f0, .int .u8 x.f4.f1, .int .u8 x.f5.f0, .int .u8 x.f5.f1, .int .u8 x.f6.f0, .int .u8 x.f6.f1, .int .u8 x.f7.f0, .int .u8 x.f7.f1, .int .u8 x.f8.f0, .int .u8 x.f8.f1, .int .u8 x.f9.f0, .int .u8 x.f9.f1, .int .u8 x.f10.f0, .int .u8 x.f10.f1, .int .u8 x.f11.f0, .int .u8 x.f11.f1, .int .u8 x.f12.f0, .int .u8 x.f12.f1, .int .u8 x.f13.f0, .int .u8 x.f13.f1, .int .u8 x.f14.f0, .int .u8 x.f14.f1, .int .u8 x.f15.f0, .int .u8 x.f15.f1] := ⟨[.int .u8 x.f0.f0, .int .u8 x.f0.f1], [.int .u8 x.f1.f0, .int .u8 x.f1.f1, .int .u8 x.f2.f0, .int .u8 x.f2.f1, .int .u8 x.f3.f0, .int .u8 x.f3.f1, .int .u8 x.f4.f0, .int .u8 x.f4.f1, .int .u8 x.f5.f0, .int .u8 x.f5.f1, .int .u8 x.f6.f0, .int .u8 x.f6.f1, .int .u8 x.f7.f0, .int .u8 x.f7.f1, .int .u8 x.f8.f0, .int .u8 x.f8.f1, .int .u8 x.f9.f0, .int .u8 x.f9.f1, .int .u8 x.f10.f0, .int .u8 x.f10.f1, .int .u8 x.f11.f0, .int .u8 x.f11.f1, .int .u8 x.f12.f0, .int .u8 x.f12.f1, .int .u8 x.f13.f0, .int .u8 x.f13.f1, .int .u8 x.f14.f0, .int .u8 x.f14.f1, .int .u8 x.f15.f0, .int .u8 x.f15.f1], rfl, (k195_mk w x.f0 ), ⟨[.int .u8 x.f1.f0, .int .u8 x.f1.f1], [.int .u8 x.f2.f0, .int .u8 x.f2.f1, .int .u8 x.f3.f0, .int .u8 x.f3.f1, .int .u8 x.f4.f0, .int .u8 x.f4.f1, .int .u8 x.f5.f0, .int .u8 x.f5.f1, .int .u8 x.f6.f0, .int .u8 x.f6.f1, .int .u8 x.f7.f0, .int .u8 x.f7.f1, .int .u8 x.f8.f0, .int .u8 x.f8.f1, .int .u8 x.f9.f0, .int .u8 x.f9.f1, .int .u8 x.f10.f0, .int .u8 x.f10.f1, .int .u8 x.f11.f0, .int .u8 x.f11.f1, .int .u8 x.f12.f0, .int .u8 x.f12.f1, .int .u8 x.f13.f0, .int .u8 x.f13.f1, .int .u8 x.f14.f0, .int .u8 x.f14.f1, .int .u8 x.f15.f0, .int .u8 x.f15.f1], rfl, (k195_mk w x.f1 ), ⟨[.int .u8 x.f2.f0, .int .u8 x.f2.f1], [.int .u8 x.f3.f0, .int .u8 x.f3.f1, .int .u8 x.f4.f0, .int .u8 x.f4.f1, .int .u8 x.f5.f0, .int .u8 x.f5.f1, .int .u8 x.f6.f0, .int .u8 x.f6.f1, .int .u8 x.f7.f0, .int .u8 x.f7.f1, .int .u8 x.f8.f0, .int .u8 x.f8.f1, .int .u8 x.f9.f0, .int .u8 x.f9.f1, .int .u8 x.f10.f0, .int .u8 x.f10.f1, .int .u8 x.f11.f0, .int .u8 x.f11.f1, .int .u8 x.f12.f0, .int .u8 x.f12.f1, .int .u8 x.f13.f0, .int .u8 x.f13.f1, .int .u8 x.f14.f0, .int .u8 x.f14.f1, .int .u8 x.f15.f0, .int .u8 x.f15.f1], rfl, (k195_mk w x.f2 ), ⟨[.int .u8 x.f3.f0, .int .u8 x.f3.f1], [.int .u8 x.f4.f0, .int .u8 x.f4.f1, .int .u8 x.f5.f0, .int .u8 x.f5.f1, .int .u8 x.f6.f0, .int .u8 x.f6.f1, .int .u8 x.f7.f0, .int .u8 x.f7.f1, .int .u8 x.f8.f0, .int .u8 x.f8.f1, .int .u8 x.f9.f0, .int .u8 x.f9.f1, .int .u8 x.f10.f0, .int .u8 x.f10.f1, .int .u8 x.f11.f0, .int .u8 x.f11.f1, .int .u8 x.f12.f0, .int .u8 x.f12.f1, .int .u8 x.f13.f0, .int .u8 x.f13.f1, .int .u8 x.f14.f0, .int .u8 x.f14.f1, .int .u8 x.f15.f0, .int .u8 x.f15.f1], rfl, (k195_mk w x.f3 ), ⟨[.int .u8 x.f4.f0, .int .u8 x.f4.f1], [.int .u8 x.f5.f0, .int .u8 x.f5.f1, .int .u8 x.f6.f0, .int .u8 x.f6.f1, .int .u8 x.f7.f0, .int .u8 x.f7.f1, .int .u8 x.f8.f0, .int .u8 x.f8.f1, .int .u8 x.f9.f0, .int .u8 x.f9.f1, .int .u8 x.f10.f0, .int .u8 x.f10.f1, .int .u8 x.f11.f0, .int .u8 x.f11.f1, .int .u8 x.f12.f0, .int .u8 x.f12.f1, .int .u8 x.f13.f0, .int .u8 x.f13.f1, .int .u8 x.f14.f0, .int .u8 x.f14.f1, .int .u8 x.f15.f0, .int .u8 x.f15.f1], rfl, (k195_mk w x.f4 ), ⟨[.int .u8 x.f5.f0, .int .u8 x.f5.f1], [.int .u8 x.f6.f0, .int .u8 x.f6.f1, .int .u8 x.f7.f0, .int .u8 x.f7.f1, .int .u8 x.f8.f0, .int .u8 x.f8.f1, .int .u8 x.f9.f0, .int .u8 x.f9.f1, .int .u8 x.f10.f0, .int .u8 x.f10.f1, .int .u8 x.f11.f0, .int .u8 x.f11.f1, .int .u8 x.f12.f0, .int .u8 x.f12.f1, .int .u8 x.f13.f0, .int .u8 x.f13.f1, .int .u8 x.f14.f0, .int .u8 x.f14.f1, .int .u8 x.f15.f0, .int .u8 x.f15.f1], rfl, (k195_mk w x.f5 ), ⟨[.int .u8 x.f6.f0, .int .u8 x.f6.f1], [.int .u8 x.f7.f0, .int .u8 x.f7.f1, .int .u8 x.f8.f0, .int .u8 x.f8.f1, .int .u8 x.f9.f0, .int .u8 x.f9.f1, .int .u8 x.f10.f0, .int .u8 x.f10.f1, .int .u8 x.f11.f0, .int .u8 x.f11.f1, .int .u8 x.f12.f0, .int .u8 x.f12.f1, .int .u8 x.f13.f0, .int .u8 x.f13.f1, .int .u8 x.f14.f0, .int .u8 x.f14.f1, .int .u8 x.f15.f0, .int .u8 x.f15.f1], rfl, (k195_mk w x.f6 ), ⟨[.int .u8 x.f7.f0, .int .u8 x.f7.f1], [.int .u8 x.f8.f0, .int .u8 x.f8.f1, .int .u8 x.f9.f0, .int .u8 x.f9.f1, .int .u8 x.f10.f0, .int .u8 x.f10.f1, .int .u8 x.f11.f0, .int .u8 x.f11.f1, .int .u8 x.f12.f0, .int .u8 x.f12.f1, .int .u8 x.f13.f0, .int .u8 x.f13.f1, .int .u8 x.f14.f0, .int .u8 x.f14.f1, .int .u8 x.f15.f0, .int .u8 x.f15.f1], rfl, (k195_mk w x.f7 ), ⟨[.int .u8 x.f8.f0, .int .u8 x.f8.f1], [.int .u8 x.f9.f0, .int .u8 x.f9.f1, .int .u8 x.f10.f0, .int .u8 x.f10.f1, .int .u8 x.f11.f0, .int .u8 x.f11.f1, .int .u8 x.f12.f0, .int .u8 x.f12.f1, .int .u8 x.f13.f0, .int .u8 x.f13.f1, .int .u8 x.f14.f0, .int .u8 x.f14.f1, .int .u8 x.f15.f0, .int .u8 x.f15.f1], rfl, (k195_mk w x.f8 ), ⟨[.int .u8 x.f9.f0, .int .u8 x.f9.f1], [.int .u8 x.f10.f0, .int .u8 x.f10.f1, .int .u8 x.f11.f0, .int .u8 x.f11.f1, .int .u8 x.f12.f0, .int .u8 x.f12.f1, .int .u8 x.f13.f0, .int .u8 x.f13.f1, .int .u8 x.f14.f0, .int .u8 x.f14.f1, .int .u8 x.f15.f0, .int .u8 x.f15.f1], rfl, (k195_mk w x.f9 ), ⟨[.int .u8 x.f10.f0, .int .u8 x.f10.f1], [.int .u8 x.f11.f0, .int .u8 x.f11.f1, .int .u8 x.f12.f0, .int .u8 x.f12.f1, .int .u8 x.f13.f0, .int .u8 x.f13.f1, .int .u8 x.f14.f0, .int .u8 x.f14.f1, .int .u8 x.f15.f0, .int .u8 x.f15.f1], rfl, (k195_mk w x.f10 ), ⟨[.int .u8 x.f11.f0, .int .u8 x.f11.f1], [.int .u8 x.f12.f0, .int .u8 x.f12.f1, .int .u8 x.f13.f0, .int .u8 x.f13.f1, .int .u8 x.f14.f0, .int .u8 x.f14.f1, .int .u8 x.f15.f0, .int .u8 x.f15.f1], rfl, (k195_mk w x.f11 ), ⟨[.int .u8 x.f12.f0, .int .u8 x.f12.f1], [.int .u8 x.f13.f0, .int .u8 x.f13.f1, .int .u8 x.f14.f0, .int .u8 x.f14.f1, .int .u8 x.f15.f0, .int .u8 x.f15.f1], rfl, (k195_mk w x.f12 ), ⟨[.int .u8 x.f13.f0, .int .u8 x.f13.f1], [.int .u8 x.f14.f0, .int .u8 x.f14.f1, .int .u8 x.f15.f0, .int .u8 x.f15.f1], rfl, (k195_mk w x.f13 ), ⟨[.int .u8 x.f14.f0, .int .u8 x.f14.f1], [.int .u8 x.f15.f0, .int .u8 x.f15.f1], rfl, (k195_mk w x.f14 ), (k195_mk w x.f15 )⟩⟩⟩⟩⟩⟩⟩⟩⟩⟩⟩⟩⟩⟩⟩
theorem k196_mkM (w : World) (base : Nat) (ok : Nat → Prop) (x : S196)  : k196.M w base ok x [.int .u8 x.f0.f0, .int .u8 x.f0.f1, .int .u8 x.f1.f0, .int .u8 x.f1.f1, .int .u8 x.f2.f0, .int .u8 x.f2.f1, .int .u8 x.f3.f0, .int .u8 x.f3.f1, .int .u8 x.f4.f0, .int .u8 x.f4.f1, .int .u8 x.f5.f0, .int .u8 x.f5.f1, .int .u8 x.f6.f0, .int .u8 x.f6.f1, .int .u8 x.f7.f0, .int .u8 x.f7.f1, .int .u8 x.f8.f0, .int .u8 x.f8.f1, .int .u8 x.f9.f0, .int .u8 x.f9.f1, .int .u8 x.f10.f0, .int .u8 x.f10.f1, .int .u8 x.f11.f0, .int .u8 x.f11.f1, .int .u8 x.f12.f0, .int .u8 x.f12.f1, .int .u8 x.f13.f0, .int .u8 x.f13.f1, .int .u8 x.f14.f0, .int .u8 x.f14.f1, .int .u8 x.f15.f0, .int .u8 x.f15.f1] := ⟨[.int .u8 x.f0.f0, .int .u8 x.f0.f1], [.int .u8 x.f1.f0, .int .u8 x.f1.f1, .int .u8 x.f2.f0, .int .u8 x.f2.f1, .int .u8 x.f3.f0, .int .u8 x.f3.f1, .int .u8 x.f4.f0, .int .u8 x.f4.f1, .int .u8 x.f5.f0, .int .u8 x.f5.f1, .int .u8 x.f6.f0, .int .u8 x.f6.f1, .int .u8 x.f7.f0, .int .u8 x.f7.f1, .int .u8 x.f8.f0, .int .u8 x.f8.f1, .int .u8 x.f9.f0, .int .u8 x.f9.f1, .int .u8 x.f10.f0, .int .u8 x.f10.f1, .int .u8 x.f11.f0, .int .u8 x.f11.f1, .int .u8 x.f12.f0, .int .u8 x.f12.f1, .int .u8 x.f13.f0, .int .u8 x.f13.f1, .int .u8 x.f14.f0, .int .u8 x.f14.f1, .int .u8 x.f15.f0, .int .u8 x.f15.f1], rfl, (k195_mkM w base ok x.f0 ), ⟨[.int .u8 x.f1.f0, .int .u8 x.f1.f1], [.int .u8 x.f2.f0, .int .u8 x.f2.f1, .int .u8 x.f3.f0, .int .u8 x.f3.f1, .int .u8 x.f4.f0, .int .u8 x.f4.f1, .int .u8 x.f5.f0, .int .u8 x.f5.f1, .int .u8 x.f6.f0, .int .u8 x.f6.f1, .int .u8 x.f7.f0, .int .u8 x.f7.f1, .int .u8 x.f8.f0, .int .u8 x.f8.f1, .int .u8 x.f9.f0, .int .u8 x.f9.f1, .int .u8 x.f10.f0, .int .u8 x.f10.f1, .int .u8 x.f11.f0, .int .u8 x.f11.f1, .int .u8 x.f12.f0, .int .u8 x.f12.f1, .int .u8 x.f13.f0, .int .u8 x.f13.f1, .int .u8 x.f14.f0, .int .u8 x.f14.f1, .int .u8 x.f15.f0, .int .u8 x.f15.f1], rfl, (k195_mkM w base ok x.f1 ), ⟨[.int .u8 x.f2.f0, .int .u8 x.f2.f1], [.int .u8 x.f3.f0, .int .u8 x.f3.f1, .int .u8 x.f4.f0, .int .u8 x.f4.f1, .int .u8 x.f5.f0, .int .u8 x.f5.f1, .int .u8 x.f6.f0, .int .u8 x.f6.f1, .int .u8 x.f7.f0, .int .u8 x.f7.f1, .int .u8 x.f8.f0, .int .u8 x.f8.f1, .int .u8 x.f9.f0, .int .u8 x.f9.f1, .int .u8 x.f10.f0, .int .u8 x.f10.f1, .int .u8 x.f11.f0, .int .u8 x.f11.f1, .int .u8 x.f12.f0, .int .u8 x.f12.f1, .int .u8 x.f13.f0, .int .u8 x.f13.f1, .int .u8 x.f14.f0, .int .u8 x.f14.f1, .int .u8 x.f15.f0, .int .u8 x.f15.f1], rfl, (k195_mkM w base ok x.f2 ), ⟨[.int .u8 x.f3.f0, .int .u8 x.f3.f1], [.int .u8 x.f4.f0, .int .u8 x.f4.f1, .int .u8 x.f5.f0, .int .u8 x.f5.f1, .int .u8 x.f6.f0, .int .u8 x.f6.f1, .int .u8 x.f7.f0, .int .u8 x.f7.f1, .int .u8 x.f8.f0, .int .u8 x.f8.f1, .int .u8 x.f9.f0, .int .u8 x.f9.f1, .int .u8 x.f10.f0, .int .u8 x.f10.f1, .int .u8 x.f11.f0, .int .u8 x.f11.f1, .int .u8 x.f12.f0, .int .u8 x.f12.f1, .int .u8 x.f13.f0, .int .u8 x.f13.f1, .int .u8 x.f14.f0, .int .u8 x.f14.f1, .int .u8 x.f15.f0, .int .u8 x.f15.f1], rfl, (k195_mkM w base ok x.f3 ), ⟨[.int .u8 x.f4.f0, .int .u8 x.f4.f1], [.int .u8 x.f5.f0, .int .u8 x.f5.f1, .int .u8 x.f6.f0, .int .u8 x.f6.f1, .int .u8 x.f7.f0, .int .u8 x.f7.f1, .int .u8 x.f8.f0, .int .u8 x.f8.f1, .int .u8 x.f9.f0, .int .u8 x.f9.f1, .int .u8 x.f10.f0, .int .u8 x.f10.f1, .int .u8 x.f11.f0, .int .u8 x.f11.f1, .int .u8 x.f12.f0, .int .u8 x.f12.f1, .int .u8 x.f13.f0, .int .u8 x.f13.f1, .int .u8 x.f14.f0, .int .u8 x.f14.f1, .int .u8 x.f15.f0, .int .u8 x.f15.f1], rfl, (k195_mkM w base ok x.f4 ), ⟨[.int .u8 x.f5.f0, .int .u8 x.f5.f1], [.int .u8 x.f6.f0, .int .u8 x.f6.f1, .int .u8 x.f7.f0, .int .u8 x.f7.f1, .int .u8 x.f8.f0, .int .u8 x.f8.f1, .int .u8 x.f9.f0, .int .u8 x.f9.f1, .int .u8 x.f10.f0, .int .u8 x.f10.f1, .int .u8 x.f11.f0, .int .u8 x.f11.f1, .int .u8 x.f12.f0, .int .u8 x.f12.f1, .int .u8 x.f13.f0, .int .u8 x.f13.f1, .int .u8 x.f14.f0, .int .u8 x.f14.f1, .int .u8 x.f15.f0, .int .u8 x.f15.f1], rfl, (k195_mkM w base ok x.f5 ), ⟨[.int .u8 x.f6.f0, .int .u8 x.f6.f1], [.int .u8 x.f7.f0, .int .u8 x.f7.f1, .int .u8 x.f8.f0, .int .u8 x.f8.f1, .int .u8 x.f9.f0, .int .u8 x.f9.f1, .int .u8 x.f10.f0, .int .u8 x.f10.f1, .int .u8 x.f11.f0, .int .u8 x.f11.f1, .int .u8 x.f12.f0, .int .u8 x.f12.f1, .int .u8 x.f13.f0, .int .u8 x.f13.f1, .int .u8 x.f14.f0, .int .u8 x.f14.f1, .int .u8 x.f15.f0, .int .u8 x.f15.f1], rfl, (k195_mkM w base ok x.f6 ), ⟨[.int .u8 x.f7.f0, .int .u8 x.f7.f1], [.int .u8 x.f8.f0, .int .u8 x.f8.f1, .int .u8 x.f9.f0, .int .u8 x.f9.f1, .int .u8 x.f10.f0, .int .u8 x.f10.f1, .int .u8 x.f11.f0, .int .u8 x.f11.f1, .int .u8 x.f12.f0, .int .u8 x.f12.f1, .int .u8 x.f13.f0, .int .u8 x.f13.f1, .int .u8 x.f14.f0, .int .u8 x.f14.f1, .int .u8 x.f15.f0, .int .u8 x.f15.f1], rfl, (k195_mkM w base ok x.f7 ), ⟨[.int .u8 x.f8.f0, .int .u8 x.f8.f1], [.int .u8 x.f9.f0, .int .u8 x.f9.f1, .int .u8 x.f10.f0, .int .u8 x.f10.f1, .int .u8 x.f11.f0, .int .u8 x.f11.f1, .int .u8 x.f12.f0, .int .u8 x.f12.f1, .int .u8 x.f13.f0, .int .u8 x.f13.f1, .int .u8 x.f14.f0, .int .u8 x.f14.f1, .int .u8 x.f15.f0, .int .u8 x.f15.f1], rfl, (k195_mkM w base ok x.f8 ), ⟨[.int .u8 x.f9.f0, .int .u8 x.f9.f1], [.int .u8 x.f10.f0, .int .u8 x.f10.f1, .int .u8 x.f11.f0, .int .u8 x.f11.f1, .int .u8 x.f12.f0, .int .u8 x.f12.f1, .int .u8 x.f13.f0, .int .u8 x.f13.f1, .int .u8 x.f14.f0, .int .u8 x.f14.f1, .int .u8 x.f15.f0, .int .u8 x.f15.f1], rfl, (k195_mkM w base ok x.f9 ), ⟨[.int .u8 x.f10.f0, .int .u8 x.f10.f1], [.int .u8 x.f11.f0, .int .u8 x.f11.f1, .int .u8 x.f12.f0, .int .u8 x.f12.f1, .int .u8 x.f13.f0, .int .u8 x.f13.f1, .int .u8 x.f14.f0, .int .u8 x.f14.f1, .int .u8 x.f15.f0, .int .u8 x.f15.f1], rfl, (k195_mkM w base ok x.f10 ), ⟨[.int .u8 x.f11.f0, .int .u8 x.f11.f1], [.int .u8 x.f12.f0, .int .u8 x.f12.f1, .int .u8 x.f13.f0, .int .u8 x.f13.f1, .int .u8 x.f14.f0, .int .u8 x.f14.f1, .int .u8 x.f15.f0, .int .u8 x.f15.f1], rfl, (k195_mkM w base ok x.f11 ), ⟨[.int .u8 x.f12.f0, .int .u8 x.f12.f1], [.int .u8 x.f13.f0, .int .u8 x.f13.f1, .int .u8 x.f14.f0, .int .u8 x.f14.f1, .int .u8 x.f15.f0, .int .u8 x.f15.f1], rfl, (k195_mkM w base ok x.f12 ), ⟨[.int .u8 x.f13.f0, .int .u8 x.f13.f1], [.int .u8 x.f14.f0, .int .u8 x.f14.f1, .int .u8 x.f15.f0, .int .u8 x.f15.f1], rfl, (k195_mkM w base ok x.f13 ), ⟨[.int .u8 x.f14.f0, .int .u8 x.f14.f1], [.int .u8 x.f15.f0, .int .u8 x.f15.f1], rfl, (k195_mkM w base ok x.f14 ), (k195_mkM w base ok x.f15 )⟩⟩⟩⟩⟩⟩⟩⟩⟩⟩⟩⟩⟩⟩⟩
theorem k196_mkF (W : World) (ok : Nat → Prop) (x : S196) : Kd.FK k196 W ok x [.int .u8 x.f0.f0, .int .u8 x.f0.f1, .int .u8 x.f1.f0, .int .u8 x.f1.f1, .int .u8 x.f2.f0, .int .u8 x.f2.f1, .int .u8 x.f3.f0, .int .u8 x.f3.f1, .int .u8 x.f4.f0, .int .u8 x.f4.f1, .int .u8 x.f5.f0, .int .u8 x.f5.f1, .int .u8 x.f6.f0, .int .u8 x.f6.f1, .int .u8 x.f7.f0, .int .u8 x.f7.f1, .int .u8 x.f8.f0, .int .u8 x.f8.f1, .int .u8 x.f9.f0, .int .u8 x.f9.f1, .int .u8 x.f10.f0, .int .u8 x.f10.f1, .int .u8 x.f11.f0, .int .u8 x.f11.f1, .int .u8 x.f12.f0, .int .u8 x.f12.f1, .int .u8 x.f13.f0, .int .u8 x.f13.f1, .int .u8 x.f14.f0, .int .u8 x.f14.f1, .int .u8 x.f15.f0, .int .u8 x.f15.f1] := fun W2 _ => k196_mk W2 x
def rd_T196 (xs : List S196) (i : Int) : S196 := xs.getD i.toNat z196
theorem at_T196 {w : World} {A : Option Addr} {n : Nat} {xs : List S196} (h : Kd.C k196 w A n xs) (i : Int) (h0 : 0 ≤ i) (h1 : i < n) : ∃ ad , A = some ad ∧ w.cell? (ad.add (i.toNat * 32)) = some (.int .u8 (rd_T196 xs i).f0.f0) ∧ w.cell? ⟨(ad.add (i.toNat * 32)).block, (ad.add (i.toNat * 32)).off + 1, none⟩ = some (.int .u8 (rd_T196 xs i).f0.f1) ∧ w.cell? ⟨(ad.add (i.toNat * 32)).block, (ad.add (i.toNat * 32)).off + 2, none⟩ = some (.int .u8 (rd_T196 xs i).f1.f0) ∧ w.cell? ⟨(ad.add (i.toNat * 32)).block, (ad.add (i.toNat * 32)).off + 3, none⟩ = some (.int .u8 (rd_T196 xs i).f1.f1) ∧ w.cell? ⟨(ad.add (i.toNat * 32)).block, (ad.add (i.toNat * 32)).off + 4, none⟩ = some (.int .u8 (rd_T196 xs i).f2.f0) ∧ w.cell? ⟨(ad.add (i.toNat * 32)).block, (ad.add (i.toNat * 32)).off + 5, none⟩ = some (.int .u8 (rd_T196 xs i).f2.f1) ∧ w.cell? ⟨(ad.add (i.toNat * 32)).block, (ad.add (i.toNat * 32)).off + 6, none⟩ = some (.int .u8 (rd_T196 xs i).f3.f0) ∧ w.cell? ⟨(ad.add (i.toNat * 32)).block, (ad.add (i.toNat * 32)).off + 7, none⟩ = some (.int .u8 (rd_T196 xs i).f3.f1) ∧ w.cell? ⟨(ad.add (i.toNat * 32)).block, (ad.add (i.toNat * 32)).off + 8, none⟩ = some (.int .u8 (rd_T196 xs i).f4.f0) ∧ w.cell? ⟨(ad.add (i.toNat * 32)).block, (ad.add (i.toNat * 32)).off + 9, none⟩ = some (.int .u8 (rd_T196 xs i).f4.f1) ∧ w.cell? ⟨(ad.add (i.toNat * 32)).block, (ad.add (i.toNat * 32)).off + 10, none⟩ = some (.int .u8 (rd_T196 xs i).f5.f0) ∧ w.cell? ⟨(ad.add (i.toNat * 32)).block, (ad.add (i.toNat * 32)).off + 11, none⟩ = some (.int .u8 (rd_T196 xs i).f5.f1) ∧ w.cell? ⟨(ad.add (i.toNat * 32)).block, (ad.add (i.toNat * 32)).off + 12, none⟩ = some (.int .u8 (rd_T196 xs i).f6.f0) ∧ w.cell? ⟨(ad.add (i.toNat * 32)).block, (ad.add (i.toNat * 32)).off + 13, none⟩ = some (.int .u8 (rd_T196 xs i).f6.f1) ∧ w.cell? ⟨(ad.add (i.toNat * 32)).block, (ad.add (i.toNat * 32)).off + 14, none⟩ = some (.int .u8 (rd_T196 xs i).f7.f0) ∧ w.cell? ⟨(ad.add (i.toNat * 32)).block, (ad.add (i.toNat * 32)).off + 15, none⟩ = some (.int .u8 (rd_T196 xs i).f7.f1) ∧ w.cell? ⟨(ad.add (i.toNat * 32)).block, (ad.add (i.toNat * 32)).off + 16, none⟩ = some (.int .u8 (rd_T196 xs i).f8.f0) ∧ w.cell? ⟨(ad.add (i.toNat * 32)).block, (ad.add (i.toNat * 32)).off + 17, none⟩ = some (.int .u8 (rd_T196 xs i).f8.f1) ∧ w.cell? ⟨(ad.add (i.toNat * 32)).block, (ad.add (i.toNat * 32)).off + 18, none⟩ = some (.int .u8 (rd_T196 xs i).f9.f0) ∧ w.cell? ⟨(ad.add (i.toNat * 32)).block, (ad.add (i.toNat * 32)).off + 19, none⟩ = some (.int .u8 (rd_T196 xs i).f9.f1) ∧ w.cell? ⟨(ad.add (i.toNat * 32)).block, (ad.add (i.toNat * 32)).off + 20, none⟩ = some (.int .u8 (rd_T196 xs i).f10.f0) ∧ w.cell? ⟨(ad.add (i.toNat * 32)).block, (ad.add (i.toNat * 32)).off + 21, none⟩ = some (.int .u8 (rd_T196 xs i).f10.f1) ∧ w.cell? ⟨(ad.add (i.toNat * 32)).block, (ad.add (i.toNat * 32)).off + 22, none⟩ = some (.int .u8 (rd_T196 xs i).f11.f0) ∧ w.cell? ⟨(ad.add (i.toNat * 32)).block, (ad.add (i.toNat * 32)).off + 23, none⟩ = some (.int .u8 (rd_T196 xs i).f11.f1) ∧ w.cell? ⟨(ad.add (i.toNat * 32)).block, (ad.add (i.toNat * 32)).off + 24, none⟩ = some (.int .u8 (rd_T196 xs i).f12.f0) ∧ w.cell? ⟨(ad.add (i.toNat * 32)).block, (ad.add (i.toNat * 32)).off + 25, none⟩ = some (.int .u8 (rd_T196 xs i).f12.f1) ∧ w.cell? ⟨(ad.add (i.toNat * 32)).block, (ad.add (i.toNat * 32)).off + 26, none⟩ = some (.int .u8 (rd_T196 xs i).f13.f0) ∧ w.cell? ⟨(ad.add (i.toNat * 32)).block, (ad.add (i.toNat * 32)).off + 27, none⟩ = some (.int .u8 (rd_T196 xs i).f13.f1) ∧ w.cell? ⟨(ad.add (i.toNat * 32)).block, (ad.add (i.toNat * 32)).off + 28, none⟩ = some (.int .u8 (rd_T196 xs i).f14.f0) ∧ w.cell? ⟨(ad.add (i.toNat * 32)).block, (ad.add (i.toNat * 32)).off + 29, none⟩ = some (.int .u8 (rd_T196 xs i).f14.f1) ∧ w.cell? ⟨(ad.add (i.toNat * 32)).block, (ad.add (i.toNat * 32)).off + 30, none⟩ = some (.int .u8 (rd_T196 xs i).f15.f0) ∧ w.cell? ⟨(ad.add (i.toNat * 32)).block, (ad.add (i.toNat * 32)).off + 31, none⟩ = some (.int .u8 (rd_T196 xs i).f15.f1) := by
  obtain ⟨ad, c, e, _, hK, hc0⟩ := Kd.C_get h z196 i h0 h1
  have hc : ∀ j u, c[j]? = some u → w.cell? (ad.add (i.toNat * 32 + j)) = some u := hc0
  obtain rfl := k196_open hK
  exact ⟨ad, e, hc 0 _ rfl, by rw [← add_field _ _ 1 (by omega)]; exact hc 1 _ rfl, by rw [← add_field _ _ 2 (by omega)]; exact hc 2 _ rfl, by rw [← add_field _ _ 3 (by omega)]; exact hc 3 _ rfl, by rw [← add_field _ _ 4 (by omega)]; exact hc 4 _ rfl, by rw [← add_field _ _ 5 (by omega)]; exact hc 5 _ rfl, by rw [← add_field _ _ 6 (by omega)]; exact hc 6 _ rfl, by rw [← add_field _ _ 7 (by omega)]; exact hc 7 _ rfl, by rw [← add_field _ _ 8 (by omega)]; exact hc 8 _ rfl, by rw [← add_field _ _ 9 (by omega)]; exact hc 9 _ rfl, by rw [← add_field _ _ 10 (by omega)]; exact hc 10 _ rfl, by rw [← add_field _ _ 11 (by omega)]; exact hc 11 _ rfl, by rw [← add_field _ _ 12 (by omega)]; exact hc 12 _ rfl, by rw [← add_field _ _ 13 (by omega)]; exact hc 13 _ rfl, by rw [← add_field _ _ 14 (by omega)]; exact hc 14 _ rfl, by rw [← add_field _ _ 15 (by omega)]; exact hc 15 _ rfl, by rw [← add_field _ _ 16 (by omega)]; exact hc 16 _ rfl, by rw [← add_field _ _ 17 (by omega)]; exact hc 17 _ rfl, by rw [← add_field _ _ 18 (by omega)]; exact hc 18 _ rfl, by rw [← add_field _ _ 19 (by omega)]; exact hc 19 _ rfl, by rw [← add_field _ _ 20 (by omega)]; exact hc 20 _ rfl, by rw [← add_field _ _ 21 (by omega)]; exact hc 21 _ rfl, by rw [← add_field _ _ 22 (by omega)]; exact hc 22 _ rfl, by rw [← add_field _ _ 23 (by omega)]; exact hc 23 _ rfl, by rw [← add_field _ _ 24 (by omega)]; exact hc 24 _ rfl, by rw [← add_field _ _ 25 (by omega)]; exact hc 25 _ rfl, by rw [← add_field _ _ 26 (by omega)]; exact hc 26 _ rfl, by rw [← add_field _ _ 27 (by omega)]; exact hc 27 _ rfl, by rw [← add_field _ _ 28 (by omega)]; exact hc 28 _ rfl, by rw [← add_field _ _ 29 (by omega)]; exact hc 29 _ rfl, by rw [← add_field _ _ 30 (by omega)]; exact hc 30 _ rfl, by rw [← add_field _ _ 31 (by omega)]; exact hc 31 _ rfl⟩

def rd_LKd_slice_3_Kd_int_i64 (xs : List (List Int)) (i : Int) : (List Int) := xs.getD i.toNat ([] : List Int)
theorem at_LKd_slice_3_Kd_int_i64 {w : World} {A : Option Addr} {n : Nat} {xs : List (List Int)} (h : Kd.C (Kd.slice 3 (Kd.int .i64)) w A n xs) (i : Int) (h0 : 0 ≤ i) (h1 : i < n) : ∃ ad A0 c0, A = some ad ∧ w.cell? (ad.add i.toNat) = some (.slice A0 (rd_LKd_slice_3_Kd_int_i64 xs i).length c0) ∧ (rd_LKd_slice_3_Kd_int_i64 xs i).length ≤ c0 ∧ (Kd.int .i64).C w A0 (rd_LKd_slice_3_Kd_int_i64 xs i).length (rd_LKd_slice_3_Kd_int_i64 xs i) := by
  obtain ⟨ad, c, e, _, hK, hc0⟩ := Kd.C_get h ([] : List Int) i h0 h1
  have hc : ∀ j u, c[j]? = some u → w.cell? (ad.add (i.toNat * 1 + j)) = some u := hc0
  obtain ⟨A0, c0, rfl, l0, g0⟩ := hK
  exact ⟨ad, A0, c0, e, by have hq := hc 0 _ rfl; rwa [Nat.mul_one, Nat.add_zero] at hq, l0, g0⟩

end Go.Proofs.YthjhbhgfckaklaaDoor.P
