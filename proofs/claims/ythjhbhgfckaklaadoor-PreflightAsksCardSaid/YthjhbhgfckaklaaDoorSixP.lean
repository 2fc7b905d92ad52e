/-
  abatisref03.Print over [8]uint16.
-/
import Derived.Test.YthjhbhgfckaklaaDoorSixM
import Derived.Test.YthjhbhgfckaklaaDoorM3
import Derived.Shelf.RegionOpenPlain
namespace Go.Proofs.YthjhbhgfckaklaaDoor.P
open Go.RowKit Go.Proofs.YthjhbhgfckaklaaDoorW.PrintWords Go.Proofs.YthjhbhgfckaklaaDoorW.PrintLast Go.Proofs.YthjhbhgfckaklaaDoorW.PrintMore
set_option linter.unusedVariables false
set_option linter.unusedSimpArgs false
theorem row8 {w : World} {k : Nat} {a b c d e f g h : Int} (hc : ∀ i, i < 8 → w.cell? { block := k, off := i } = some (.int .u16 (at8 a b c d e f g h i))) (o n : Nat) (ho : o + n ≤ 8) :
  Kd.C (Kd.int .u16) w (some ⟨k, o, none⟩) n (([a, b, c, d, e, f, g, h].drop o).take n) := by
 refine ⟨by simp; omega, by omega, fun _ => ⟨_, rfl, fun j p hp => ⟨[.int .u16 p], rfl, rfl, fun i u hu => ?_⟩⟩⟩
 match i, hu with
 | 0, hu =>
  cases hu
  have hj : j < n := by
   have h0 := (List.getElem?_eq_some_iff.mp hp).1
   rw [List.length_take] at h0
   omega
  have h1 := hc (o + j) (by omega)
  rw [show ((⟨k, o, none⟩ : Addr).add (j * (Kd.int IntKind.u16).sz + 0)) = { block := k, off := o + j } by simp [Addr.add, show (Kd.int IntKind.u16).sz = 1 from rfl]]
  rw [h1]
  rw [List.getElem?_take, if_pos hj, List.getElem?_drop] at hp
  have h2 : o + j < 8 := by omega
  generalize o + j = m at hp h2 ⊢
  match m, h2 with
  | 0, _ => cases hp; rfl
  | 1, _ => cases hp; rfl
  | 2, _ => cases hp; rfl
  | 3, _ => cases hp; rfl
  | 4, _ => cases hp; rfl
  | 5, _ => cases hp; rfl
  | 6, _ => cases hp; rfl
  | 7, _ => cases hp; rfl
 | i + 1, hu => simp at hu
theorem cells8 {w : World} {k : Nat} {t : TypeId} {a b c d e f g h : Int} (hw : w.heap[k]? = some (.cells #[.int .u16 a, .int .u16 b, .int .u16 c, .int .u16 d, .int .u16 e, .int .u16 f, .int .u16 g, .int .u16 h] t (0, 0))) :
  w.cell? { block := k, off := 0 } = some (.int .u16 a) ∧ w.cell? { block := k, off := 1 } = some (.int .u16 b) ∧ w.cell? { block := k, off := 2 } = some (.int .u16 c) ∧ w.cell? { block := k, off := 3 } = some (.int .u16 d) ∧ w.cell? { block := k, off := 4 } = some (.int .u16 e) ∧ w.cell? { block := k, off := 5 } = some (.int .u16 f) ∧ w.cell? { block := k, off := 6 } = some (.int .u16 g) ∧ w.cell? { block := k, off := 7 } = some (.int .u16 h) :=
 ⟨cell8 hw 0 (by omega), cell8 hw 1 (by omega), cell8 hw 2 (by omega), cell8 hw 3 (by omega), cell8 hw 4 (by omega), cell8 hw 5 (by omega), cell8 hw 6 (by omega), cell8 hw 7 (by omega)⟩
theorem row_at (k : Nat) {w : World} {g0 : Nat} {a b c d e f g h : Int} (hc : ∀ i, i < 8 → w.cell? { block := g0, off := i } = some (.int .u16 (at8 a b c d e f g h i))) (o n : Nat) (ho : o + n ≤ 8) {x : ByteArray} (hx : r03_row.f k (([a, b, c, d, e, f, g, h].drop o).take n) = some x) (W : World) (m : Nat) (hW : Below w.heap.size w W) (hm : n ≤ m) :
  Calls Tryd.prog 163 #[.slice (some { block := g0, off := o }) n m] W fun e w' => e = .returned (.string x) ∧ Below W.heap.size W w' := by
 have hr := Kd.C_below (row8 hc o n ho) hW
 have hl : (([a, b, c, d, e, f, g, h].drop o).take n).length = n := by simp; omega
 generalize ([a, b, c, d, e, f, g, h].drop o).take n = l at hr hl hx
 subst hl
 exact r03_row.calls k _ m l x W hr hm hx
def sDD : ByteArray := ⟨#[58, 58]⟩
def sMap : ByteArray := ⟨#[58, 58, 102, 102, 102, 102, 58]⟩
def isMapped (a b c d e f : Int) : Bool := decide (a = 0) && decide (b = 0) && decide (c = 0) && decide (d = 0) && decide (e = 0) && decide (f = 65535)
def r03_Print.f (k : Nat) (a b c d e f g h : Int) : Option ByteArray :=
 if isMapped a b c d e f = true then (r02_Print.f k ((g % 4294967296 * 65536 + h) % 4294967296)).bind fun t => if 7 + t.size ≤ 9223372036854775807 then some (sMap ++ t) else none
 else if (rn (at8 a b c d e f g h) 8 0 0 0).2 = 0 then r03_row.f k [a, b, c, d, e, f, g, h]
 else (r03_row.f k ([a, b, c, d, e, f, g, h].take (rn (at8 a b c d e f g h) 8 0 0 0).1)).bind fun x => if x.size + 2 ≤ 9223372036854775807 then
  (r03_row.f k ([a, b, c, d, e, f, g, h].drop ((rn (at8 a b c d e f g h) 8 0 0 0).1 + (rn (at8 a b c d e f g h) 8 0 0 0).2))).bind fun y => if (x ++ sDD).size + y.size ≤ 9223372036854775807 then some ((x ++ sDD) ++ y) else none else none
set_option maxHeartbeats 1000000 in
set_option maxRecDepth 100000 in
theorem r03_Print.calls (k : Nat) (a0_0 a0_1 a0_2 a0_3 a0_4 a0_5 a0_6 a0_7 : Int) (r : ByteArray) (w : World) (h : r03_Print.f k a0_0 a0_1 a0_2 a0_3 a0_4 a0_5 a0_6 a0_7 = some r) :
  Calls Tryd.prog 150 #[.agg #[.int .u16 a0_0, .int .u16 a0_1, .int .u16 a0_2, .int .u16 a0_3, .int .u16 a0_4, .int .u16 a0_5, .int .u16 a0_6, .int .u16 a0_7]] w fun e w' => e = .returned (.string r) ∧ Below w.heap.size w w' := by
 have H := Aside0.mk h
 clear h
 go_enter Tryd.func150, Tryd.ntmps150
 have hw0 := World.alloc_heap_new w (.cells #[.int .u16 a0_0, .int .u16 a0_1, .int .u16 a0_2, .int .u16 a0_3, .int .u16 a0_4, .int .u16 a0_5, .int .u16 a0_6, .int .u16 a0_7] 171)
 have HB := Aside0.mk ((Below.refl w.heap.size w).alloc (Nat.le_refl _) (.cells #[.int .u16 a0_0, .int .u16 a0_1, .int .u16 a0_2, .int .u16 a0_3, .int .u16 a0_4, .int .u16 a0_5, .int .u16 a0_6, .int .u16 a0_7] 171))
 have HW0 := Aside0.mk hw0
 clear hw0
 have hf := r03_Mapped.calls a0_0 a0_1 a0_2 a0_3 a0_4 a0_5 a0_6 a0_7 (isMapped a0_0 a0_1 a0_2 a0_3 a0_4 a0_5) (w.alloc (.cells #[.int .u16 a0_0, .int .u16 a0_1, .int .u16 a0_2, .int .u16 a0_3, .int .u16 a0_4, .int .u16 a0_5, .int .u16 a0_6, .int .u16 a0_7] 171)) rfl
 have HF := Aside0.mk hf
 clear hf
 cases hm : isMapped a0_0 a0_1 a0_2 a0_3 a0_4 a0_5 with
 | true =>
  have h1 := H.out
  unfold r03_Print.f at h1
  rw [if_pos hm] at h1
  obtain ⟨t, ht, h1⟩ := Option.bind_eq_some_iff.mp h1
  rw [hm] at HF
  clear hm
  have HT2 := Aside0.mk (fun w => r02_Print.calls k _ t w ht)
  split at h1
  case isFalse => exact absurd h1 (by simp)
  rename_i hs
  have HR := Aside0.mk (Option.some.inj h1)
  clear h1 ht
  go_wp2_with (first | (go_at_call 152; skip; refine (HT2.out w1).mono ?_; rintro e w2 ⟨rfl, hB2⟩; have HB2 := Aside0.mk (HB1.out.trans (hB2.mono HB1.out.size)); clear hB2) | (go_at_call 161; refine (HF.out).mono ?_; rintro e w1 ⟨rfl, hB1⟩; have hW1 := (hB1.block w.heap.size (by simp)).trans HW0.out; have h6 : w1.cell? { block := w.heap.size, off := 6 } = some (.int .u16 a0_6) := cell8 hW1 6 (by omega); have h7 : w1.cell? { block := w.heap.size, off := 7 } = some (.int .u16 a0_7) := cell8 hW1 7 (by omega); have HB1 := Aside0.mk (HB.out.trans (hB1.mono HB.out.size)); clear hW1 hB1))
  go_ret
  exact ⟨by rw [← HR.out]; rfl, HB2.out⟩
 | false =>
  have h1 := H.out
  unfold r03_Print.f at h1
  rw [if_neg (by rw [hm]; decide)] at h1
  rw [hm] at HF
  clear hm
  have HL := Aside0.mk (rn_le (at8 a0_0 a0_1 a0_2 a0_3 a0_4 a0_5 a0_6 a0_7) 8 0 0 0 (by omega) (by omega))
  have hrun := r03_Run.calls a0_0 a0_1 a0_2 a0_3 a0_4 a0_5 a0_6 a0_7 ((rn (at8 a0_0 a0_1 a0_2 a0_3 a0_4 a0_5 a0_6 a0_7) 8 0 0 0).1 : Int) ((rn (at8 a0_0 a0_1 a0_2 a0_3 a0_4 a0_5 a0_6 a0_7) 8 0 0 0).2 : Int)
  have HRUN := Aside0.mk (fun w => hrun w rfl)
  clear hrun
  generalize (rn (at8 a0_0 a0_1 a0_2 a0_3 a0_4 a0_5 a0_6 a0_7) 8 0 0 0).1 = p at h1 HL HRUN
  generalize (rn (at8 a0_0 a0_1 a0_2 a0_3 a0_4 a0_5 a0_6 a0_7) 8 0 0 0).2 = q at h1 HL HRUN
  by_cases hq : q = 0
  ·rw [if_pos hq] at h1
   subst hq
   have HR := Aside0.mk h1
   clear h1
   go_wp2_with (first | (go_at_call 162; refine (HRUN.out w1).mono ?_; rintro e w2 ⟨rfl, hB2⟩; have hW2 := (hB2.block w.heap.size (World.block_lt_of_cell? w1 _ (cell8 HW1.out 0 (by omega)))).trans HW1.out; have HC2 := Aside0.mk (fun i hi => cell8 hW2 i hi); have HB2 := Aside0.mk (HB1.out.trans (hB2.mono HB1.out.size)); clear hB2) | (go_at_call 161; refine (HF.out).mono ?_; rintro e w1 ⟨rfl, hB1⟩; have hW1 := (hB1.block w.heap.size (by simp)).trans HW0.out; obtain ⟨x0, x1, x2, x3, x4, x5, x6, x7⟩ := cells8 hW1; have HW1 := Aside0.mk hW1; clear hW1; have HB1 := Aside0.mk (HB.out.trans (hB1.mono HB.out.size)); clear hB1))
   go_wp2_with (go_at_call 163; refine (row_at k HC2.out 0 8 (by omega) HR.out w2 8 (Below.refl _ _) (Nat.le_refl _)).mono ?_; rintro e w3 ⟨rfl, hB3⟩)
   go_ret
   exact ⟨rfl, HB2.out.trans (hB3.mono HB2.out.size)⟩
  ·rw [if_neg hq] at h1
   have c1b0 : ((q : Int) == 0) = false := by simpa using hq
   have hpq := HL.out
   clear hq
   go_wp2_with (first | (go_at_call 162; refine (HRUN.out w1).mono ?_; rintro e w2 ⟨rfl, hB2⟩; have hW2 := (hB2.block w.heap.size (World.block_lt_of_cell? w1 _ (cell8 HW1.out 0 (by omega)))).trans HW1.out; have HC2 := Aside0.mk (fun i hi => cell8 hW2 i hi); have HB2 := Aside0.mk (HB1.out.trans (hB2.mono HB1.out.size)); clear hB2) | (go_at_call 161; refine (HF.out).mono ?_; rintro e w1 ⟨rfl, hB1⟩; have hW1 := (hB1.block w.heap.size (by simp)).trans HW0.out; obtain ⟨x0, x1, x2, x3, x4, x5, x6, x7⟩ := cells8 hW1; have HW1 := Aside0.mk hW1; clear hW1; have HB1 := Aside0.mk (HB.out.trans (hB1.mono HB.out.size)); clear hB1))
   have c2b0 : (0 : Int) ≤ (p : Int) := by omega
   have c2b1 : (p : Int) ≤ 8 := by omega
   have c2b2 : (p : Int) + (q : Int) ≤ 8 := by omega
   have c2b3 : (0 : Int) ≤ (p : Int) + (q : Int) := by omega
   obtain ⟨x, hx, h1⟩ := Option.bind_eq_some_iff.mp h1
   have HX := Aside0.mk hx
   split at h1
   case isFalse => exact absurd h1 (by simp)
   rename_i hs1
   obtain ⟨y, hy, h1⟩ := Option.bind_eq_some_iff.mp h1
   have HY := Aside0.mk hy
   split at h1
   case isFalse => exact absurd h1 (by simp)
   rename_i hs2
   have HR := Aside0.mk (Option.some.inj h1)
   clear h1 hx hy
   have mixed : Tryd.prog.follows Departure.mixedOrders = true := by kernel_rfl
   have HX1 := Aside0.mk (row_at k HC2.out 0 p (by omega) (x := x) HX.out)
   have hs3 : x.size + 2 + y.size ≤ 9223372036854775807 := by rw [ByteArray.size_append] at hs2; exact hs2
   have hs4 : (x ++ (⟨#[58, 58]⟩ : ByteArray)).size + y.size ≤ 9223372036854775807 := hs2
   have hwr : wrap64 ((p : Int) + (q : Int)) = (p : Int) + (q : Int) := by unfold wrap64; omega
   have hwr2 : IntKind.i64.wrap ((p : Int) + (q : Int)) = (p : Int) + (q : Int) := by simp [IntKind.wrap, IntKind.bits, IntKind.signed] <;> omega
   rcases (by omega : p + q = 8 ∨ p + q < 8) with h8 | h8
   ·have hT : ((p : Int) + (q : Int)).toNat = 8 := by omega
    have HY1 := Aside0.mk (fun W (hW : Below w2.heap.size w2 W) => row_at k HC2.out 0 0 (by omega) (x := y) (by have := HY.out; rw [h8] at this; exact this) W 0 hW (Nat.le_refl _))
    clear h8
    go_region_with_o (first | (go_at_call 163; refine (HY1.out _ HB3.out).mono ?_; rintro e w4 ⟨rfl, hB4⟩; have HB4 := Aside0.mk (HB3.out.trans (hB4.mono HB3.out.size)); clear hB4) | (go_at_call 163; refine (HX1.out _ 8 (Below.refl w2.heap.size w2).drew (by omega)).mono ?_; rintro e w3 ⟨rfl, hB3⟩; have HB3 := Aside0.mk ((Below.refl w2.heap.size w2).drew.trans hB3); clear hB3))
    all_goals go_wp2
    all_goals go_ret
    all_goals exact ⟨by rw [← HR.out]; rfl, HB2.out.trans (HB4.out.mono HB2.out.size)⟩
   ·have hT : ((p : Int) + (q : Int)).toNat = p + q := by omega
    have hT2 : (8 = p + q) = False := eq_false (by omega)
    have HY1 := Aside0.mk (fun W (hW : Below w2.heap.size w2 W) => row_at k HC2.out (p + q) (8 - (p + q)) (by omega) (x := y) (by rw [List.take_of_length_le (by simp)]; exact HY.out) W (8 - (p + q)) hW (Nat.le_refl _))
    clear h8
    go_region_with_o (first | (go_at_call 163; refine (HY1.out _ HB3.out).mono ?_; rintro e w4 ⟨rfl, hB4⟩; have HB4 := Aside0.mk (HB3.out.trans (hB4.mono HB3.out.size)); clear hB4) | (go_at_call 163; refine (HX1.out _ 8 (Below.refl w2.heap.size w2).drew (by omega)).mono ?_; rintro e w3 ⟨rfl, hB3⟩; have HB3 := Aside0.mk ((Below.refl w2.heap.size w2).drew.trans hB3); clear hB3))
    all_goals go_wp2
    all_goals go_ret
    all_goals exact ⟨by rw [← HR.out]; rfl, HB2.out.trans (HB4.out.mono HB2.out.size)⟩
end Go.Proofs.YthjhbhgfckaklaaDoor.P
