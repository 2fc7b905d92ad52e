/-
  abatisref03.Mapped, Run over [8]uint16: an array that is indexed by a variable.
-/
import Derived.Test.YthjhbhgfckaklaaDoorM2
import Derived.Test.YthjhbhgfckaklaaDoorM4
import Derived.OwnWalk
import Derived.RangeFuncRecord
namespace Go.Proofs.YthjhbhgfckaklaaDoor.P
open Go.RowKit Go.Proofs.YthjhbhgfckaklaaDoorW.PrintWords Go.Proofs.YthjhbhgfckaklaaDoorW.PrintLast Go.Proofs.YthjhbhgfckaklaaDoorW.PrintMore
set_option linter.unusedVariables false
set_option linter.unusedSimpArgs false
def at8 (a b c d e f g h : Int) : Nat → Int
 | 0 => a | 1 => b | 2 => c | 3 => d | 4 => e | 5 => f | 6 => g | 7 => h | _ => 0
theorem cell8 {w : World} {k : Nat} {t : TypeId} {a b c d e f g h : Int} (hw : w.heap[k]? = some (.cells #[.int .u16 a, .int .u16 b, .int .u16 c, .int .u16 d, .int .u16 e, .int .u16 f, .int .u16 g, .int .u16 h] t (0, 0))) (i : Nat) (hi : i < 8) :
  w.cell? { block := k, off := i } = some (.int .u16 (at8 a b c d e f g h i)) := by
 match i, hi with
 | 0, _ => simp [World.cell?, hw, at8]
 | 1, _ => simp [World.cell?, hw, at8]
 | 2, _ => simp [World.cell?, hw, at8]
 | 3, _ => simp [World.cell?, hw, at8]
 | 4, _ => simp [World.cell?, hw, at8]
 | 5, _ => simp [World.cell?, hw, at8]
 | 6, _ => simp [World.cell?, hw, at8]
 | 7, _ => simp [World.cell?, hw, at8]
def r03_Mapped.f (a0_0 a0_1 a0_2 a0_3 a0_4 a0_5 a0_6 a0_7 : Int) : Option Bool := some (decide (a0_0 = 0) && decide (a0_1 = 0) && decide (a0_2 = 0) && decide (a0_3 = 0) && decide (a0_4 = 0) && decide (a0_5 = 65535))
theorem measure8 (i : Nat) (h : i < 8) : 8 - (intOf (.int .i64 ((i : Int) + 1))).toNat < 8 - (intOf (.int .i64 (i : Int))).toNat := by
 show 8 - ((i : Int) + 1).toNat < 8 - ((i : Nat) : Int).toNat
 omega
theorem mapped_no {a b c d e f g h : Int} {i : Nat} (hi : i < 5) (hz : ¬ at8 a b c d e f g h i = 0) : (decide (a = 0) && decide (b = 0) && decide (c = 0) && decide (d = 0) && decide (e = 0) && decide (f = 65535)) = false := by
 match i, hi with
 | 0, _ => simp [show ¬ a = 0 from hz]
 | 1, _ => simp [show ¬ b = 0 from hz]
 | 2, _ => simp [show ¬ c = 0 from hz]
 | 3, _ => simp [show ¬ d = 0 from hz]
 | 4, _ => simp [show ¬ e = 0 from hz]
theorem mapped_yes {a b c d e f g h : Int} (hz : ∀ j, j < 5 → at8 a b c d e f g h j = 0) : (decide (a = 0) && decide (b = 0) && decide (c = 0) && decide (d = 0) && decide (e = 0) && decide (f = 65535)) = (f == 65535) := by
 have h0 : a = 0 := hz 0 (by omega)
 have h1 : b = 0 := hz 1 (by omega)
 have h2 : c = 0 := hz 2 (by omega)
 have h3 : d = 0 := hz 3 (by omega)
 have h4 : e = 0 := hz 4 (by omega)
 subst h0 h1 h2 h3 h4
 rw [decide_eq_true rfl]
 rfl
set_option maxHeartbeats 4000000 in
set_option maxRecDepth 100000 in
theorem r03_Mapped.calls (a0_0 a0_1 a0_2 a0_3 a0_4 a0_5 a0_6 a0_7 : Int) (r : Bool) (w : World) (h : r03_Mapped.f a0_0 a0_1 a0_2 a0_3 a0_4 a0_5 a0_6 a0_7 = some r) :
  Calls Tryd.prog 161 #[.agg #[.int .u16 a0_0, .int .u16 a0_1, .int .u16 a0_2, .int .u16 a0_3, .int .u16 a0_4, .int .u16 a0_5, .int .u16 a0_6, .int .u16 a0_7]] w fun e w' => e = .returned (.bool r) ∧ Below w.heap.size w w' := by
 have H := Aside0.mk (Option.some.inj h)
 clear h
 go_enter Tryd.func161, Tryd.ntmps161
 go_wp2
 have hw0 := World.alloc_heap_new w (.cells #[.int .u16 a0_0, .int .u16 a0_1, .int .u16 a0_2, .int .u16 a0_3, .int .u16 a0_4, .int .u16 a0_5, .int .u16 a0_6, .int .u16 a0_7] 171)
 have HB := Aside0.mk ((Below.refl w.heap.size w).alloc (Nat.le_refl _) (.cells #[.int .u16 a0_0, .int .u16 a0_1, .int .u16 a0_2, .int .u16 a0_3, .int .u16 a0_4, .int .u16 a0_5, .int .u16 a0_6, .int .u16 a0_7] 171))
 generalize w.alloc (.cells #[.int .u16 a0_0, .int .u16 a0_1, .int .u16 a0_2, .int .u16 a0_3, .int .u16 a0_4, .int .u16 a0_5, .int .u16 a0_6, .int .u16 a0_7] 171) = W at hw0 HB ⊢
 have HW0 := Aside0.mk hw0
 clear hw0
 go_loopw [3] (fun v3 wr => ∃ i : Nat, v3 = .int .i64 (i : Int) ∧ Aside0 (i ≤ 5) ∧ Aside0 (∀ j, j < i → at8 a0_0 a0_1 a0_2 a0_3 a0_4 a0_5 a0_6 a0_7 j = 0) ∧ Aside0 (wr = W)) (fun v3 _ => 8 - (intOf v3).toNat)
 case atStart => exact ⟨0, rfl, ⟨by omega⟩, ⟨fun j hj => by omega⟩, ⟨rfl⟩⟩
 case round =>
  obtain ⟨i, rfl, HI, HZ, HE⟩ := hrel
  obtain rfl := HE.out
  by_cases hlt : i < 5
  ·have c3b0 : decide ((i : Int) < 5) = true := decide_eq_true (by omega)
   have c3b1 : decide (i < 5) = true := decide_eq_true hlt
   have c3b2 : (0 : Int) ≤ (i : Int) := Int.natCast_nonneg i
   have c3b3 : (i : Int) < 8 := by omega
   have hx := cell8 HW0.out i (by omega)
   have e1 : wrap64 ((i : Int) + 1) = ((i + 1 : Nat) : Int) := by unfold wrap64; omega
   by_cases hz : at8 a0_0 a0_1 a0_2 a0_3 a0_4 a0_5 a0_6 a0_7 i = 0
   ·have HZ2 := Aside0.mk hz
    have c4b0 : (at8 a0_0 a0_1 a0_2 a0_3 a0_4 a0_5 a0_6 a0_7 i == 0) = true := by rw [hz]; rfl
    clear hz
    go_wp2
    go_roundw
    case rel => exact ⟨i + 1, rfl, ⟨by omega⟩, ⟨fun j hj => by rcases (by omega : j < i ∨ j = i) with h | rfl; exact HZ.out j h; exact HZ2.out⟩, ⟨trivial⟩⟩
    case measure => exact measure8 i (by omega)
   ·have c4b0 : (at8 a0_0 a0_1 a0_2 a0_3 a0_4 a0_5 a0_6 a0_7 i == 0) = false := by simpa using hz
    have HZ2 := Aside0.mk hz
    clear hz
    go_wp2
    go_ret
    exact ⟨by rw [← H.out, mapped_no hlt HZ2.out]; rfl, HB.out⟩
  ·have hi5 : i = 5 := by have := HI.out; omega
   subst hi5
   have hx := cell8 HW0.out 5 (by omega)
   have hx2 : at8 a0_0 a0_1 a0_2 a0_3 a0_4 a0_5 a0_6 a0_7 5 = a0_5 := rfl
   rw [hx2] at hx
   clear hx2
   go_wp2
   go_ret
   exact ⟨by rw [← H.out, mapped_yes HZ.out]; rfl, HB.out⟩
def zr (g : Nat → Int) : Nat → Nat → Nat
 | 0, _ => 0
 | k + 1, i => if g i = 0 then zr g k (i + 1) + 1 else 0
theorem zr_le (g : Nat → Int) (k i : Nat) : zr g k i ≤ k := by
 induction k generalizing i with
 | zero => exact Nat.le_refl 0
 | succ k ih => rw [zr]; split; have := ih (i + 1); omega; omega
def rn (g : Nat → Int) : Nat → Nat → Nat → Nat → Nat × Nat
 | 0, _, a, m => (a, m)
 | k + 1, i, a, m => if 2 ≤ zr g (k + 1) i ∧ m < zr g (k + 1) i then rn g k (i + 1) i (zr g (k + 1) i) else rn g k (i + 1) a m
theorem rn_le (g : Nat → Int) (k i a m : Nat) (hi : i + k = 8) (h : a + m ≤ 8) : (rn g k i a m).1 + (rn g k i a m).2 ≤ 8 := by
 induction k generalizing i a m with
 | zero => exact h
 | succ k ih =>
  rw [rn]
  have := zr_le g (k + 1) i
  split
  ·exact ih _ _ _ (by omega) (by omega)
  ·exact ih _ _ _ (by omega) h
theorem rn_no (g : Nat → Int) (k i a m : Nat) (h : ¬ (2 ≤ zr g (k + 1) i ∧ m < zr g (k + 1) i)) : rn g (k + 1) i a m = rn g k (i + 1) a m := by rw [rn, if_neg h]
theorem rn_yes (g : Nat → Int) (k i a m n : Nat) (hn : n = zr g (k + 1) i) (h2 : 2 ≤ n) (hm : m < n) : rn g (k + 1) i a m = rn g k (i + 1) i n := by subst hn; rw [rn, if_pos ⟨h2, hm⟩]
theorem rn_no8 (g : Nat → Int) (i a m : Nat) (R : Nat × Nat) (hi : i < 8) (h : ¬ (2 ≤ zr g (8 - i) i ∧ m < zr g (8 - i) i)) (hr : rn g (8 - i) i a m = R) : rn g (8 - (i + 1)) (i + 1) a m = R := by
 rw [show 8 - i = 8 - (i + 1) + 1 by omega] at h hr
 rwa [rn_no g _ i a m h] at hr
theorem rn_yes8 (g : Nat → Int) (i a m n : Nat) (R : Nat × Nat) (hi : i < 8) (hn : n = zr g (8 - i) i) (h2 : 2 ≤ n) (hm : m < n) (hr : rn g (8 - i) i a m = R) : rn g (8 - (i + 1)) (i + 1) i n = R := by
 rw [show 8 - i = 8 - (i + 1) + 1 by omega] at hn hr
 rwa [rn_yes g _ i a m n hn h2 hm] at hr
def r03_Run.f (a0_0 a0_1 a0_2 a0_3 a0_4 a0_5 a0_6 a0_7 : Int) : Option (Int × Int) := some (((rn (at8 a0_0 a0_1 a0_2 a0_3 a0_4 a0_5 a0_6 a0_7) 8 0 0 0).1 : Int), ((rn (at8 a0_0 a0_1 a0_2 a0_3 a0_4 a0_5 a0_6 a0_7) 8 0 0 0).2 : Int))
set_option maxHeartbeats 4000000 in
set_option maxRecDepth 100000 in
theorem r03_Run.calls (a0_0 a0_1 a0_2 a0_3 a0_4 a0_5 a0_6 a0_7 : Int) (r1 r2 : Int) (w : World) (h : r03_Run.f a0_0 a0_1 a0_2 a0_3 a0_4 a0_5 a0_6 a0_7 = some (r1, r2)) :
  Calls Tryd.prog 162 #[.agg #[.int .u16 a0_0, .int .u16 a0_1, .int .u16 a0_2, .int .u16 a0_3, .int .u16 a0_4, .int .u16 a0_5, .int .u16 a0_6, .int .u16 a0_7]] w fun e w' => e = .returned (.tuple #[.int .i64 r1, .int .i64 r2]) ∧ Below w.heap.size w w' := by
 have h1 : (r1, r2) = _ := (Option.some.inj h).symm
 have H1 := Aside0.mk (Prod.mk.inj h1).1
 have H2 := Aside0.mk (Prod.mk.inj h1).2
 clear h h1
 go_enter Tryd.func162, Tryd.ntmps162
 go_wp2
 have hw0 := World.alloc_heap_new w (.cells #[.int .u16 a0_0, .int .u16 a0_1, .int .u16 a0_2, .int .u16 a0_3, .int .u16 a0_4, .int .u16 a0_5, .int .u16 a0_6, .int .u16 a0_7] 171)
 have HB := Aside0.mk ((Below.refl w.heap.size w).alloc (Nat.le_refl _) (.cells #[.int .u16 a0_0, .int .u16 a0_1, .int .u16 a0_2, .int .u16 a0_3, .int .u16 a0_4, .int .u16 a0_5, .int .u16 a0_6, .int .u16 a0_7] 171))
 have HC := Aside0.mk (fun i hi => cell8 hw0 i hi)
 clear hw0
 generalize w.alloc (.cells #[.int .u16 a0_0, .int .u16 a0_1, .int .u16 a0_2, .int .u16 a0_3, .int .u16 a0_4, .int .u16 a0_5, .int .u16 a0_6, .int .u16 a0_7] 171) = W at HC HB ⊢
 generalize at8 a0_0 a0_1 a0_2 a0_3 a0_4 a0_5 a0_6 a0_7 = g at HC H1 H2
 go_loopw [4, 5, 6] (fun v4 v5 v6 wr => ∃ i a m : Nat, v4 = .int .i64 (a : Int) ∧ v5 = .int .i64 (m : Int) ∧ v6 = .int .i64 (i : Int) ∧ Aside0 (i ≤ 8) ∧ Aside0 (a + m ≤ 8) ∧ Aside0 (rn g (8 - i) i a m = rn g 8 0 0 0) ∧ Aside0 (wr = W)) (fun _ _ v6 _ => 8 - (intOf v6).toNat)
 case atStart => exact ⟨0, 0, 0, rfl, rfl, rfl, ⟨by omega⟩, ⟨by omega⟩, ⟨rfl⟩, ⟨rfl⟩⟩
 case round =>
  obtain ⟨i, a, m, rfl, rfl, rfl, HI, HM, HR, HE⟩ := hrel
  obtain rfl := HE.out
  by_cases hlt : i < 8
  ·have c3b0 : decide ((i : Int) < 8) = true := decide_eq_true (by omega)
   have c3b1 : decide (i < 8) = true := decide_eq_true hlt
   have HLT := Aside0.mk hlt
   clear hlt
   go_wp2
   go_loopw [7] (fun v7 wr' => ∃ n : Nat, v7 = .int .i64 (n : Int) ∧ Aside0 (i + n ≤ 8) ∧ Aside0 (n + zr g (8 - i - n) (i + n) = zr g (8 - i) i) ∧ Aside0 (wr' = wr)) (fun v7 _ => 8 - (intOf v7).toNat)
   case atStart => exact ⟨0, rfl, ⟨by have := HI.out; omega⟩, ⟨by simp⟩, ⟨rfl⟩⟩
   case round =>
    obtain ⟨n, rfl, HN, HZ, HE2⟩ := hrel
    obtain rfl := HE2.out
    have hn8 := HN.out
    by_cases hin : i + n < 8
    ·have d3b0 : decide ((i : Int) + (n : Int) < 8) = true := decide_eq_true (by omega)
     have d3b1 : decide (i + n < 8) = true := decide_eq_true hin
     have d3b2 : (0 : Int) ≤ (i : Int) + (n : Int) := by omega
     have d3b3 : (i : Int) + (n : Int) < 8 := by omega
     have hx := HC.out (i + n) hin
     by_cases hz : g (i + n) = 0
     ·have HZ1 := Aside0.mk (show (n + 1) + zr g (8 - i - (n + 1)) (i + (n + 1)) = zr g (8 - i) i by
       have h0 := HZ.out
       rw [show 8 - i - n = (8 - i - (n + 1)) + 1 by omega, zr, if_pos hz] at h0
       rw [← h0, show i + (n + 1) = i + n + 1 by omega]; omega)
      have c4b0 : (g (i + n) == 0) = true := by rw [hz]; rfl
      have HIN := Aside0.mk hin
      clear hz hin
      go_wp2
      go_roundw
      case rel => exact ⟨n + 1, rfl, ⟨HIN.out⟩, HZ1, ⟨trivial⟩⟩
      case measure => exact measure8 n (by have := HIN.out; omega)
     ·have HQ := Aside0.mk (show n = zr g (8 - i) i by
       have h0 := HZ.out
       rw [show 8 - i - n = (8 - i - (n + 1)) + 1 by omega, zr, if_neg hz] at h0
       exact h0)
      have c4b0 : (g (i + n) == 0) = false := by simpa using hz
      clear hz hin
      rcases (by omega : n < 2 ∨ (2 ≤ n ∧ n ≤ m) ∨ (2 ≤ n ∧ m < n)) with hc | ⟨hc, hd⟩ | ⟨hc, hd⟩
      ·have e5b0 : decide (2 ≤ (n : Int)) = false := decide_eq_false (by omega)
       have e5b1 : decide (2 ≤ n) = false := decide_eq_false (by omega)
       have HX := Aside0.mk (rn_no8 g i a m _ HLT.out (fun h => by have := HQ.out; omega) HR.out)
       clear hc
       go_wp2
       go_roundw
       case rel => exact ⟨i + 1, a, m, rfl, rfl, rfl, ⟨HLT.out⟩, HM, ⟨HX.out⟩, ⟨trivial⟩⟩
       case measure => exact measure8 i HLT.out
      ·have e5b0 : decide (2 ≤ (n : Int)) = true := decide_eq_true (by omega)
       have e5b1 : decide (2 ≤ n) = true := decide_eq_true (by omega)
       have e6b0 : decide ((m : Int) < (n : Int)) = false := decide_eq_false (by omega)
       have e6b1 : decide (m < n) = false := decide_eq_false (by omega)
       have HX := Aside0.mk (rn_no8 g i a m _ HLT.out (fun h => by have := HQ.out; omega) HR.out)
       clear hc hd
       go_wp2
       go_roundw
       case rel => exact ⟨i + 1, a, m, rfl, rfl, rfl, ⟨HLT.out⟩, HM, ⟨HX.out⟩, ⟨trivial⟩⟩
       case measure => exact measure8 i HLT.out
      ·have e5b0 : decide (2 ≤ (n : Int)) = true := decide_eq_true (by omega)
       have e5b1 : decide (2 ≤ n) = true := decide_eq_true (by omega)
       have e6b0 : decide ((m : Int) < (n : Int)) = true := decide_eq_true (by omega)
       have e6b1 : decide (m < n) = true := decide_eq_true (by omega)
       have HX := Aside0.mk (rn_yes8 g i a m n _ HLT.out HQ.out hc hd HR.out)
       clear hc hd
       go_wp2
       go_roundw
       case rel => exact ⟨i + 1, i, n, rfl, rfl, rfl, ⟨HLT.out⟩, ⟨HN.out⟩, ⟨HX.out⟩, ⟨trivial⟩⟩
       case measure => exact measure8 i HLT.out
    ·have HQ := Aside0.mk (show n = zr g (8 - i) i by
      have h0 := HZ.out
      rw [show 8 - i - n = 0 by omega, zr] at h0
      exact h0)
     have d3b0 : decide ((i : Int) + (n : Int) < 8) = false := decide_eq_false (by omega)
     have d3b1 : decide (i + n < 8) = false := decide_eq_false hin
     clear hin
     rcases (by omega : n < 2 ∨ (2 ≤ n ∧ n ≤ m) ∨ (2 ≤ n ∧ m < n)) with hc | ⟨hc, hd⟩ | ⟨hc, hd⟩
     ·have e5b0 : decide (2 ≤ (n : Int)) = false := decide_eq_false (by omega)
      have e5b1 : decide (2 ≤ n) = false := decide_eq_false (by omega)
      have HX := Aside0.mk (rn_no8 g i a m _ HLT.out (fun h => by have := HQ.out; omega) HR.out)
      clear hc
      go_wp2
      go_roundw
      case rel => exact ⟨i + 1, a, m, rfl, rfl, rfl, ⟨HLT.out⟩, HM, ⟨HX.out⟩, ⟨trivial⟩⟩
      case measure => exact measure8 i HLT.out
     ·have e5b0 : decide (2 ≤ (n : Int)) = true := decide_eq_true (by omega)
      have e5b1 : decide (2 ≤ n) = true := decide_eq_true (by omega)
      have e6b0 : decide ((m : Int) < (n : Int)) = false := decide_eq_false (by omega)
      have e6b1 : decide (m < n) = false := decide_eq_false (by omega)
      have HX := Aside0.mk (rn_no8 g i a m _ HLT.out (fun h => by have := HQ.out; omega) HR.out)
      clear hc hd
      go_wp2
      go_roundw
      case rel => exact ⟨i + 1, a, m, rfl, rfl, rfl, ⟨HLT.out⟩, HM, ⟨HX.out⟩, ⟨trivial⟩⟩
      case measure => exact measure8 i HLT.out
     ·have e5b0 : decide (2 ≤ (n : Int)) = true := decide_eq_true (by omega)
      have e5b1 : decide (2 ≤ n) = true := decide_eq_true (by omega)
      have e6b0 : decide ((m : Int) < (n : Int)) = true := decide_eq_true (by omega)
      have e6b1 : decide (m < n) = true := decide_eq_true (by omega)
      have HX := Aside0.mk (rn_yes8 g i a m n _ HLT.out HQ.out hc hd HR.out)
      clear hc hd
      go_wp2
      go_roundw
      case rel => exact ⟨i + 1, i, n, rfl, rfl, rfl, ⟨HLT.out⟩, ⟨HN.out⟩, ⟨HX.out⟩, ⟨trivial⟩⟩
      case measure => exact measure8 i HLT.out
  ·have hi8 : i = 8 := by have := HI.out; omega
   subst hi8
   have hr := HR.out
   rw [rn] at hr
   have HR2 := Aside0.mk hr
   clear hr
   go_wp2
   go_ret2
   exact ⟨by rw [H1.out, H2.out, ← HR2.out]; rfl, HB.out⟩
end Go.Proofs.YthjhbhgfckaklaaDoor.P
