/-
  abatisref03.Parse: the groups of a text, into [8]uint16.
-/
import Derived.Test.YthdognlkacjkhaaGreatDoorSixM
import Derived.Test.YthdognlkacjkhaaGreatDoorPS1
import Derived.Laws.ResultCell
import Derived.Laws.Rows
import Derived.IntWalk
namespace Go.Proofs.YthdognlkacjkhaaGreatDoor.P
open Go.RowKit Go.Proofs.YthdognlkacjkhaaGreatDoorW.PrintWords Go.Proofs.YthdognlkacjkhaaGreatDoorW.PrintLast Go.Proofs.YthdognlkacjkhaaGreatDoorW.PrintMore
set_option linter.unusedVariables false
set_option linter.unusedSimpArgs false
/-- Eight groups that begin as g, with a list's from a place on. -/
def pl (g : Nat → Int) (off : Nat) (l : List Int) (i : Nat) : Nat → Int := fun j => if off ≤ j ∧ j < off + i then IntKind.u16.wrap (l.getD (j - off) 0) else g j
def zero8 : Nat → Int := fun _ => 0
def c8 (g : Nat → Int) : Array Value := #[.int .u16 (g 0), .int .u16 (g 1), .int .u16 (g 2), .int .u16 (g 3), .int .u16 (g 4), .int .u16 (g 5), .int .u16 (g 6), .int .u16 (g 7)]
def out8 (g : Nat → Int) (v : Bool) : Int × Int × Int × Int × Int × Int × Int × Int × Bool := (g 0, g 1, g 2, g 3, g 4, g 5, g 6, g 7, v)
theorem pl_zero (g : Nat → Int) (off : Nat) (l : List Int) : pl g off l 0 = g := by funext j; unfold pl; rw [if_neg (by omega)]
theorem pl_at (g : Nat → Int) (off : Nat) (l : List Int) (i : Nat) : pl g off l (i + 1) (off + i) = IntKind.u16.wrap (l.getD i 0) := by unfold pl; rw [if_pos (by omega), Nat.add_sub_cancel_left]
theorem pl_ne (g : Nat → Int) (off : Nat) (l : List Int) (i j : Nat) (h : j ≠ off + i) : pl g off l (i + 1) j = pl g off l i j := by
  unfold pl
  by_cases h1 : off ≤ j ∧ j < off + i
  · rw [if_pos h1, if_pos (by omega)]
  · rw [if_neg h1, if_neg (by omega)]
theorem c8_put (g : Nat → Int) (off : Nat) (l : List Int) (i : Nat) (h : off + i < 8) : (c8 (pl g off l i)).setIfInBounds (off + i) (.int .u16 (IntKind.u16.wrap (l.getD i 0))) = c8 (pl g off l (i + 1)) := by
  have hv := pl_at g off l i
  have hn := fun j (hj : j ≠ off + i) => pl_ne g off l i j hj
  rw [← hv]
  generalize pl g off l (i + 1) = q at hn ⊢
  generalize pl g off l i = p at hn ⊢
  generalize off + i = m at h hn ⊢
  match m, h with
  | 0, _ => unfold c8; rw [← hn 1 (by omega), ← hn 2 (by omega), ← hn 3 (by omega), ← hn 4 (by omega), ← hn 5 (by omega), ← hn 6 (by omega), ← hn 7 (by omega)]; rfl
  | 1, _ => unfold c8; rw [← hn 0 (by omega), ← hn 2 (by omega), ← hn 3 (by omega), ← hn 4 (by omega), ← hn 5 (by omega), ← hn 6 (by omega), ← hn 7 (by omega)]; rfl
  | 2, _ => unfold c8; rw [← hn 0 (by omega), ← hn 1 (by omega), ← hn 3 (by omega), ← hn 4 (by omega), ← hn 5 (by omega), ← hn 6 (by omega), ← hn 7 (by omega)]; rfl
  | 3, _ => unfold c8; rw [← hn 0 (by omega), ← hn 1 (by omega), ← hn 2 (by omega), ← hn 4 (by omega), ← hn 5 (by omega), ← hn 6 (by omega), ← hn 7 (by omega)]; rfl
  | 4, _ => unfold c8; rw [← hn 0 (by omega), ← hn 1 (by omega), ← hn 2 (by omega), ← hn 3 (by omega), ← hn 5 (by omega), ← hn 6 (by omega), ← hn 7 (by omega)]; rfl
  | 5, _ => unfold c8; rw [← hn 0 (by omega), ← hn 1 (by omega), ← hn 2 (by omega), ← hn 3 (by omega), ← hn 4 (by omega), ← hn 6 (by omega), ← hn 7 (by omega)]; rfl
  | 6, _ => unfold c8; rw [← hn 0 (by omega), ← hn 1 (by omega), ← hn 2 (by omega), ← hn 3 (by omega), ← hn 4 (by omega), ← hn 5 (by omega), ← hn 7 (by omega)]; rfl
  | 7, _ => unfold c8; rw [← hn 0 (by omega), ← hn 1 (by omega), ← hn 2 (by omega), ← hn 3 (by omega), ← hn 4 (by omega), ← hn 5 (by omega), ← hn 6 (by omega)]; rfl
theorem c8_cell {w : World} {k : Nat} {t : TypeId} {g : Nat → Int} (hw : w.heap[k]? = some (.cells (c8 g) t (0, 0))) (i : Nat) (hi : i < 8) : w.cell? { block := k, off := i } = some (.int .u16 (g i)) := by
  have h := cell8 hw i hi
  rw [h]
  match i, hi with
  | 0, _ => rfl
  | 1, _ => rfl
  | 2, _ => rfl
  | 3, _ => rfl
  | 4, _ => rfl
  | 5, _ => rfl
  | 6, _ => rfl
  | 7, _ => rfl
def r03_Parse.f (k : Nat) (s : ByteArray) : Option (Int × Int × Int × Int × Int × Int × Int × Int × Bool) :=
  (r03_gap.f k s).bind fun t => if t < 0 then
    (r03_Groups.f k s true).bind fun l => if l.2 = true ∧ l.1.length = 8 then some (out8 (pl zero8 0 l.1 8) true) else some (out8 zero8 false)
  else if t + 2 ≤ (s.size : Int) ∧ s.size ≤ 9223372036854775807 then
    (r03_Groups.f k (s.extract 0 t.toNat) false).bind fun a => (r03_Groups.f k (s.extract (t + 2).toNat s.size) true).bind fun b =>
      if a.1.length ≤ 1000000 ∧ b.1.length ≤ 1000000 then (if a.2 = true ∧ b.2 = true ∧ a.1.length + b.1.length ≤ 7 then some (out8 (pl (pl zero8 0 a.1 a.1.length) (8 - b.1.length) b.1 b.1.length) true) else some (out8 zero8 false)) else none
  else none
theorem row_get {W : World} {e base : Nat} {ok : Nat → Prop} {A : Option Addr} {n c : Nat} {xs : List Int} (h : Kd.R (Kd.int .i64) e W base ok (.slice A n c) xs) (i : Nat) (hi : i < xs.length) :
    ∃ gb, A = some ⟨gb, 0, none⟩ ∧ base ≤ gb ∧ W.cell? { block := gb, off := i } = some (.int .i64 (xs.getD i 0)) := by
  obtain ⟨gb, cap, hv, hb, _, _⟩ := Kd.R_form h (by omega)
  obtain ⟨rfl, _, _⟩ : A = some ⟨gb, 0, none⟩ ∧ n = xs.length ∧ c = cap := by injection hv with h1 h2 h3; exact ⟨h1, h2, h3⟩
  obtain ⟨ad, ha, hc⟩ := Kd.at_int (Kd.R_reads' h).2.2 (i : Int) (by omega) (by omega)
  cases ha
  refine ⟨gb, rfl, hb, ?_⟩
  rw [Int.toNat_natCast, add_plain] at hc
  rw [hc]
  unfold rd
  rw [Int.toNat_natCast]
theorem gap_below (k : Nat) (a0 : ByteArray) (t : Int) (ht : r03_gap.f k a0 = some t) (W : World) : Calls Tryz.prog 104 #[.string a0] W fun e w1 => e = .returned (.int .i64 t) ∧ Below W.heap.size W w1 :=
  (r03_gap.calls k a0 t W ht).mono (fun e w1 ⟨he, nd, hd⟩ => ⟨he, by rw [hd]; exact pw_below_drewN (Below.refl _ _) nd⟩)
theorem cell_heap {w w1 : World} {p : Addr} (h : w1.heap[p.block]? = w.heap[p.block]?) : w1.cell? p = w.cell? p := by unfold World.cell?; rw [h]
theorem frozen8 {w : World} {k : Nat} {t : TypeId} {cs : Array Value} (hw : w.heap[k]? = some (.cells cs t (0, 0))) (i : Nat) : w.frozen? { block := k, off := i } = false := Lib.frozen_of_heap hw i
theorem wrap_two (t : Int) (n : Nat) (h0 : 0 ≤ t) (h1 : t + 2 ≤ (n : Int)) (h2 : n ≤ 9223372036854775807) : wrap64 (t + 2) = t + 2 := by unfold wrap64; omega
/-- Two arrays at the call's own blocks: all zero, and one that is filled. -/
def Two (w W : World) (g : Nat → Int) : Prop := W.heap[w.heap.size]? = some (.cells (c8 zero8) 76 (0, 0)) ∧ W.heap[w.heap.size + 1]? = some (.cells (c8 g) 76 (0, 0)) ∧ Below w.heap.size w W ∧ w.heap.size + 2 ≤ W.heap.size
theorem two_start (w : World) : Two w ((w.alloc (.cells (c8 zero8) 76)).alloc (.cells (c8 zero8) 76)) zero8 := by
  have h1 := World.alloc_heap_new w (.cells (c8 zero8) 76)
  have h2 := World.alloc_heap_new (w.alloc (.cells (c8 zero8) 76)) (.cells (c8 zero8) 76)
  have hb := (Below.refl (w.alloc (.cells (c8 zero8) 76)).heap.size (w.alloc (.cells (c8 zero8) 76))).alloc (Nat.le_refl _) (.cells (c8 zero8) 76)
  rw [World.size_alloc] at h2
  refine ⟨(hb.block _ (by simp)).trans h1, h2, ((Below.refl w.heap.size w).alloc (Nat.le_refl _) _).alloc (by simp) _, by simp⟩
theorem two_below {w W W' : World} {g : Nat → Int} (h : Two w W g) (hb : Below W.heap.size W W') : Two w W' g := by
  obtain ⟨h1, h2, h3, h4⟩ := h
  exact ⟨(hb.block _ (by omega)).trans h1, (hb.block _ (by omega)).trans h2, h3.trans (hb.mono (by omega)), Nat.le_trans h4 hb.size⟩
theorem two_put {w W : World} {g : Nat → Int} {off : Nat} {l : List Int} {i : Nat} (h : Two w W (pl g off l i)) (hi : off + i < 8) : Two w (W.setCell ⟨w.heap.size + 1, off + i, none⟩ (.int .u16 (IntKind.u16.wrap (l.getD i 0)))) (pl g off l (i + 1)) := by
  obtain ⟨h1, h2, h3, h4⟩ := h
  refine ⟨(Below.heap_setCell W _ _ _ (by simp)).trans h1, blk_put h2 _ _ (c8_put g off l i hi), h3.setCell (by simp) _, by simpa using h4⟩
theorem two_keep {w W W' : World} {i : Nat} {u : Value} (h : ∀ q, q ≠ w.heap.size + 1 → W.heap[q]? = W'.heap[q]?) : ∀ q, q ≠ w.heap.size + 1 → (W.setCell ⟨w.heap.size + 1, i, none⟩ u).heap[q]? = W'.heap[q]? := fun q hq => (Below.heap_setCell W _ _ _ hq).trans (h q hq)
/-- An array stored over another. -/
abbrev put8 (W : World) (k : Nat) (g : Nat → Int) : World :=
  (((((((W.setCell { block := k, off := 0 } (.int .u16 (g 0))).setCell { block := k, off := 1 } (.int .u16 (g 1))).setCell { block := k, off := 2 } (.int .u16 (g 2))).setCell { block := k, off := 3 } (.int .u16 (g 3))).setCell { block := k, off := 4 } (.int .u16 (g 4))).setCell { block := k, off := 5 } (.int .u16 (g 5))).setCell { block := k, off := 6 } (.int .u16 (g 6))).setCell { block := k, off := 7 } (.int .u16 (g 7))
theorem put8_cells {W : World} {k : Nat} {g g0 : Nat → Int} {t : TypeId} (h : W.heap[k]? = some (.cells (c8 g0) t (0, 0))) : (put8 W k g).heap[k]? = some (.cells (c8 g) t (0, 0)) := by
  have h1 : (W.setCell { block := k, off := 0 } (.int .u16 (g 0))).heap[k]? = some (.cells #[.int .u16 (g 0), .int .u16 (g0 1), .int .u16 (g0 2), .int .u16 (g0 3), .int .u16 (g0 4), .int .u16 (g0 5), .int .u16 (g0 6), .int .u16 (g0 7)] t (0, 0)) := blk_put (cs := #[.int .u16 (g0 0), .int .u16 (g0 1), .int .u16 (g0 2), .int .u16 (g0 3), .int .u16 (g0 4), .int .u16 (g0 5), .int .u16 (g0 6), .int .u16 (g0 7)]) h 0 _ rfl
  have h2 : ((W.setCell { block := k, off := 0 } (.int .u16 (g 0))).setCell { block := k, off := 1 } (.int .u16 (g 1))).heap[k]? = some (.cells #[.int .u16 (g 0), .int .u16 (g 1), .int .u16 (g0 2), .int .u16 (g0 3), .int .u16 (g0 4), .int .u16 (g0 5), .int .u16 (g0 6), .int .u16 (g0 7)] t (0, 0)) := blk_put (cs := #[.int .u16 (g 0), .int .u16 (g0 1), .int .u16 (g0 2), .int .u16 (g0 3), .int .u16 (g0 4), .int .u16 (g0 5), .int .u16 (g0 6), .int .u16 (g0 7)]) h1 1 _ rfl
  have h3 : (((W.setCell { block := k, off := 0 } (.int .u16 (g 0))).setCell { block := k, off := 1 } (.int .u16 (g 1))).setCell { block := k, off := 2 } (.int .u16 (g 2))).heap[k]? = some (.cells #[.int .u16 (g 0), .int .u16 (g 1), .int .u16 (g 2), .int .u16 (g0 3), .int .u16 (g0 4), .int .u16 (g0 5), .int .u16 (g0 6), .int .u16 (g0 7)] t (0, 0)) := blk_put (cs := #[.int .u16 (g 0), .int .u16 (g 1), .int .u16 (g0 2), .int .u16 (g0 3), .int .u16 (g0 4), .int .u16 (g0 5), .int .u16 (g0 6), .int .u16 (g0 7)]) h2 2 _ rfl
  have h4 : ((((W.setCell { block := k, off := 0 } (.int .u16 (g 0))).setCell { block := k, off := 1 } (.int .u16 (g 1))).setCell { block := k, off := 2 } (.int .u16 (g 2))).setCell { block := k, off := 3 } (.int .u16 (g 3))).heap[k]? = some (.cells #[.int .u16 (g 0), .int .u16 (g 1), .int .u16 (g 2), .int .u16 (g 3), .int .u16 (g0 4), .int .u16 (g0 5), .int .u16 (g0 6), .int .u16 (g0 7)] t (0, 0)) := blk_put (cs := #[.int .u16 (g 0), .int .u16 (g 1), .int .u16 (g 2), .int .u16 (g0 3), .int .u16 (g0 4), .int .u16 (g0 5), .int .u16 (g0 6), .int .u16 (g0 7)]) h3 3 _ rfl
  have h5 : (((((W.setCell { block := k, off := 0 } (.int .u16 (g 0))).setCell { block := k, off := 1 } (.int .u16 (g 1))).setCell { block := k, off := 2 } (.int .u16 (g 2))).setCell { block := k, off := 3 } (.int .u16 (g 3))).setCell { block := k, off := 4 } (.int .u16 (g 4))).heap[k]? = some (.cells #[.int .u16 (g 0), .int .u16 (g 1), .int .u16 (g 2), .int .u16 (g 3), .int .u16 (g 4), .int .u16 (g0 5), .int .u16 (g0 6), .int .u16 (g0 7)] t (0, 0)) := blk_put (cs := #[.int .u16 (g 0), .int .u16 (g 1), .int .u16 (g 2), .int .u16 (g 3), .int .u16 (g0 4), .int .u16 (g0 5), .int .u16 (g0 6), .int .u16 (g0 7)]) h4 4 _ rfl
  have h6 : ((((((W.setCell { block := k, off := 0 } (.int .u16 (g 0))).setCell { block := k, off := 1 } (.int .u16 (g 1))).setCell { block := k, off := 2 } (.int .u16 (g 2))).setCell { block := k, off := 3 } (.int .u16 (g 3))).setCell { block := k, off := 4 } (.int .u16 (g 4))).setCell { block := k, off := 5 } (.int .u16 (g 5))).heap[k]? = some (.cells #[.int .u16 (g 0), .int .u16 (g 1), .int .u16 (g 2), .int .u16 (g 3), .int .u16 (g 4), .int .u16 (g 5), .int .u16 (g0 6), .int .u16 (g0 7)] t (0, 0)) := blk_put (cs := #[.int .u16 (g 0), .int .u16 (g 1), .int .u16 (g 2), .int .u16 (g 3), .int .u16 (g 4), .int .u16 (g0 5), .int .u16 (g0 6), .int .u16 (g0 7)]) h5 5 _ rfl
  have h7 : (((((((W.setCell { block := k, off := 0 } (.int .u16 (g 0))).setCell { block := k, off := 1 } (.int .u16 (g 1))).setCell { block := k, off := 2 } (.int .u16 (g 2))).setCell { block := k, off := 3 } (.int .u16 (g 3))).setCell { block := k, off := 4 } (.int .u16 (g 4))).setCell { block := k, off := 5 } (.int .u16 (g 5))).setCell { block := k, off := 6 } (.int .u16 (g 6))).heap[k]? = some (.cells #[.int .u16 (g 0), .int .u16 (g 1), .int .u16 (g 2), .int .u16 (g 3), .int .u16 (g 4), .int .u16 (g 5), .int .u16 (g 6), .int .u16 (g0 7)] t (0, 0)) := blk_put (cs := #[.int .u16 (g 0), .int .u16 (g 1), .int .u16 (g 2), .int .u16 (g 3), .int .u16 (g 4), .int .u16 (g 5), .int .u16 (g0 6), .int .u16 (g0 7)]) h6 6 _ rfl
  have h8 : ((((((((W.setCell { block := k, off := 0 } (.int .u16 (g 0))).setCell { block := k, off := 1 } (.int .u16 (g 1))).setCell { block := k, off := 2 } (.int .u16 (g 2))).setCell { block := k, off := 3 } (.int .u16 (g 3))).setCell { block := k, off := 4 } (.int .u16 (g 4))).setCell { block := k, off := 5 } (.int .u16 (g 5))).setCell { block := k, off := 6 } (.int .u16 (g 6))).setCell { block := k, off := 7 } (.int .u16 (g 7))).heap[k]? = some (.cells #[.int .u16 (g 0), .int .u16 (g 1), .int .u16 (g 2), .int .u16 (g 3), .int .u16 (g 4), .int .u16 (g 5), .int .u16 (g 6), .int .u16 (g 7)] t (0, 0)) := blk_put (cs := #[.int .u16 (g 0), .int .u16 (g 1), .int .u16 (g 2), .int .u16 (g 3), .int .u16 (g 4), .int .u16 (g 5), .int .u16 (g 6), .int .u16 (g0 7)]) h7 7 _ rfl
  exact h8
theorem put8_below {B : Nat} {w W : World} {k : Nat} (h : Below B w W) (hk : B ≤ k) (g : Nat → Int) : Below B w (put8 W k g) :=
  (((((((h.setCell hk _).setCell hk _).setCell hk _).setCell hk _).setCell hk _).setCell hk _).setCell hk _).setCell hk _
theorem parse_results (tmps : Array Value) (W : World) (k : Nat) (g : Nat → Int) (v : Value) (hp : tmps.getD 2 undef = .pointer (some ⟨k, 0, none⟩)) (hc : W.heap[k]? = some (.cells (c8 g) 76 (0, 0))) (hv : tmps.getD 3 undef = v) :
    (results Tryz.f71 tmps).run Tryz.prog W = .ok (.tuple #[.agg (c8 g), v]) W := by
  rw [results_cell_tmp rfl, hp, hv]
  simp [asAddr, Result.andThen, run_loadVar_row W k 76 76 (c8 g) (0, 0) _ hc Tryz.underlying76 rfl (by kernel_rfl)]
set_option maxHeartbeats 4000000 in
set_option maxRecDepth 100000 in
theorem r03_Parse.calls (k : Nat) (a0 : ByteArray) (r1 r2 r3 r4 r5 r6 r7 r8 : Int) (r9 : Bool) (w : World) (h : r03_Parse.f k a0 = some (r1, r2, r3, r4, r5, r6, r7, r8, r9)) :
    Calls Tryz.prog 71 #[.string a0] w fun e w' => e = .returned (.tuple #[.agg #[.int .u16 r1, .int .u16 r2, .int .u16 r3, .int .u16 r4, .int .u16 r5, .int .u16 r6, .int .u16 r7, .int .u16 r8], .bool r9]) ∧ Below w.heap.size w w' := by
  unfold r03_Parse.f at h
  replace h := Option.bind_eq_some_iff.mp h
  obtain ⟨t, ht, h⟩ := h
  have HG := Aside0.mk (gap_below k a0 t ht)
  by_cases hneg : t < 0
  · rw [if_pos hneg] at h
    replace h := Option.bind_eq_some_iff.mp h
    obtain ⟨⟨l, is⟩, hl, h⟩ := h
    have HL := Aside0.mk hl
    have c1b0 : decide (t < 0) = true := decide_eq_true hneg
    by_cases hok : is = true ∧ l.length = 8
    · rw [if_pos hok] at h
      obtain ⟨rfl, hlen⟩ := hok
      have c2b0 : ((l.length : Int) == 8) = true := by rw [hlen]; rfl
      have HR := Aside0.mk (Option.some.inj h)
      have HLEN := Aside0.mk hlen
      clear h hlen hl ht
      go_enter Tryz.func71, Tryz.ntmps71
      go_wp2_with (first | (go_at_call 104; refine (HG.out _).mono ?_; rintro e w1 ⟨rfl, hB1⟩; have HT1 := Aside0.mk (two_below (two_start w) hB1); clear hB1) | (go_at_call 105; refine (r03_Groups.calls k a0 true l true _ HL.out).mono ?_; rintro e w2 ⟨v, rfl, hR, hB2⟩; have HT2 := Aside0.mk (two_below HT1.out hB2); have HRR := Aside0.mk hR; clear hB2; obtain ⟨A, c, rfl⟩ := Kd.R_slice hR; clear hR))
      have HSZ := Aside0.mk HT1.out.2.2.2
      go_loopw [8] (fun v8 wr => ∃ i : Nat, v8 = .int .i64 (i : Int) ∧ Aside0 (i ≤ 8) ∧ Aside0 (Two w wr (pl zero8 0 l i)) ∧ Aside0 (∀ q, q ≠ w.heap.size + 1 → wr.heap[q]? = w2.heap[q]?)) (fun v8 _ => 8 - (intOf v8).toNat)
      case atStart => exact ⟨0, rfl, ⟨by omega⟩, ⟨by rw [pl_zero]; exact HT2.out⟩, ⟨fun _ _ => rfl⟩⟩
      case round =>
        obtain ⟨i, rfl, HI, HT, HK⟩ := hrel
        by_cases hlt : i < 8
        · have c3b0 : decide ((i : Int) < 8) = true := decide_eq_true (by omega)
          have c3b1 : decide (i < 8) = true := decide_eq_true hlt
          have c3b2 : (0 : Int) ≤ (i : Int) := Int.natCast_nonneg i
          have c3b3 : (i : Int) < 8 := by omega
          have c3b4 : (i : Int) < (l.length : Int) := by have := HLEN.out; omega
          obtain ⟨gb, rfl, hgb, hx⟩ := row_get HRR.out i (by have := HLEN.out; omega)
          replace hx := (cell_heap (HK.out gb (by have := HSZ.out; omega))).trans hx
          have hy := c8_cell HT.out.2.1 i hlt
          have hz := frozen8 HT.out.2.1 i
          have HLT := Aside0.mk hlt
          clear hlt hgb
          go_wp2
          go_roundw
          case rel => exact ⟨i + 1, rfl, ⟨HLT.out⟩, ⟨by have h := two_put HT.out (by rw [Nat.zero_add]; exact HLT.out); rw [Nat.zero_add] at h; exact h⟩, ⟨two_keep HK.out⟩⟩
          case measure => exact measure8 i HLT.out
        · have hi8 : i = 8 := by have := HI.out; omega
          subst hi8
          have hy0 := fun i hi => c8_cell HT.out.2.1 i hi
          have hz0 := fun i hi => c8_cell HT.out.1 i hi
          have hf0 := frozen8 HT.out.1
          have hz1 := hz0 0 (by omega)
          have hf1 := hf0 0
          have hz2 := hz0 1 (by omega)
          have hf2 := hf0 1
          have hz3 := hz0 2 (by omega)
          have hf3 := hf0 2
          have hz4 := hz0 3 (by omega)
          have hf4 := hf0 3
          have hz5 := hz0 4 (by omega)
          have hf5 := hf0 4
          have hz6 := hz0 5 (by omega)
          have hf6 := hf0 5
          have hz7 := hz0 6 (by omega)
          have hf7 := hf0 6
          have hz8 := hz0 7 (by omega)
          have hf8 := hf0 7
          have hy1 := hy0 0 (by omega)
          have hy2 := hy0 1 (by omega)
          have hy3 := hy0 2 (by omega)
          have hy4 := hy0 3 (by omega)
          have hy5 := hy0 4 (by omega)
          have hy6 := hy0 5 (by omega)
          have hy7 := hy0 6 (by omega)
          have hy8 := hy0 7 (by omega)
          clear hy0 hz0 hf0
          go_wp2
          refine bodyPost_ret (parse_results _ (put8 wr w.heap.size (pl zero8 0 l 8)) w.heap.size (pl zero8 0 l 8) (.bool true) rfl (put8_cells HT.out.1) rfl) rfl ⟨?_, put8_below HT.out.2.2.1 (Nat.le_refl _) _⟩
          have e := HR.out
          unfold out8 at e
          obtain ⟨rfl, rfl, rfl, rfl, rfl, rfl, rfl, rfl, rfl⟩ := e
          rfl
    · rw [if_neg hok] at h
      have HR := Aside0.mk (Option.some.inj h)
      clear h hl ht
      rcases (by cases is <;> simp_all : is = false ∨ (is = true ∧ ¬ l.length = 8)) with rfl | ⟨rfl, hn⟩
      · clear hok
        go_enter Tryz.func71, Tryz.ntmps71
        go_wp2_with (first | (go_at_call 104; refine (HG.out _).mono ?_; rintro e w1 ⟨rfl, hB1⟩; have HT1 := Aside0.mk (two_below (two_start w) hB1); clear hB1) | (go_at_call 105; refine (r03_Groups.calls k a0 true l false _ HL.out).mono ?_; rintro e w2 ⟨v, rfl, hR, hB2⟩; have HT2 := Aside0.mk (two_below HT1.out hB2); have HRR := Aside0.mk hR; clear hB2; obtain ⟨A, c, rfl⟩ := Kd.R_slice hR; clear hR; have hy0 := fun i hi => c8_cell HT2.out.2.1 i hi; have hz0 := fun i hi => c8_cell HT2.out.1 i hi; have hf0 := frozen8 HT2.out.1; have hy1 := hy0 0 (by omega); have hz1 := hz0 0 (by omega); have hf1 := hf0 0; have hy2 := hy0 1 (by omega); have hz2 := hz0 1 (by omega); have hf2 := hf0 1; have hy3 := hy0 2 (by omega); have hz3 := hz0 2 (by omega); have hf3 := hf0 2; have hy4 := hy0 3 (by omega); have hz4 := hz0 3 (by omega); have hf4 := hf0 3; have hy5 := hy0 4 (by omega); have hz5 := hz0 4 (by omega); have hf5 := hf0 4; have hy6 := hy0 5 (by omega); have hz6 := hz0 5 (by omega); have hf6 := hf0 5; have hy7 := hy0 6 (by omega); have hz7 := hz0 6 (by omega); have hf7 := hf0 6; have hy8 := hy0 7 (by omega); have hz8 := hz0 7 (by omega); have hf8 := hf0 7; clear hy0 hz0 hf0))
        refine bodyPost_ret (parse_results _ (put8 w2 w.heap.size (zero8)) w.heap.size (zero8) (.bool false) rfl (put8_cells HT2.out.1) rfl) rfl ⟨?_, put8_below HT2.out.2.2.1 (Nat.le_refl _) _⟩
        have e := HR.out
        unfold out8 at e
        obtain ⟨rfl, rfl, rfl, rfl, rfl, rfl, rfl, rfl, rfl⟩ := e
        rfl
      · have c2b0 : ((l.length : Int) == 8) = false := by simpa using fun h => hn (by omega)
        clear hok hn
        go_enter Tryz.func71, Tryz.ntmps71
        go_wp2_with (first | (go_at_call 104; refine (HG.out _).mono ?_; rintro e w1 ⟨rfl, hB1⟩; have HT1 := Aside0.mk (two_below (two_start w) hB1); clear hB1) | (go_at_call 105; refine (r03_Groups.calls k a0 true l true _ HL.out).mono ?_; rintro e w2 ⟨v, rfl, hR, hB2⟩; have HT2 := Aside0.mk (two_below HT1.out hB2); have HRR := Aside0.mk hR; clear hB2; obtain ⟨A, c, rfl⟩ := Kd.R_slice hR; clear hR; have hy0 := fun i hi => c8_cell HT2.out.2.1 i hi; have hz0 := fun i hi => c8_cell HT2.out.1 i hi; have hf0 := frozen8 HT2.out.1; have hy1 := hy0 0 (by omega); have hz1 := hz0 0 (by omega); have hf1 := hf0 0; have hy2 := hy0 1 (by omega); have hz2 := hz0 1 (by omega); have hf2 := hf0 1; have hy3 := hy0 2 (by omega); have hz3 := hz0 2 (by omega); have hf3 := hf0 2; have hy4 := hy0 3 (by omega); have hz4 := hz0 3 (by omega); have hf4 := hf0 3; have hy5 := hy0 4 (by omega); have hz5 := hz0 4 (by omega); have hf5 := hf0 4; have hy6 := hy0 5 (by omega); have hz6 := hz0 5 (by omega); have hf6 := hf0 5; have hy7 := hy0 6 (by omega); have hz7 := hz0 6 (by omega); have hf7 := hf0 6; have hy8 := hy0 7 (by omega); have hz8 := hz0 7 (by omega); have hf8 := hf0 7; clear hy0 hz0 hf0))
        refine bodyPost_ret (parse_results _ (put8 w2 w.heap.size (zero8)) w.heap.size (zero8) (.bool false) rfl (put8_cells HT2.out.1) rfl) rfl ⟨?_, put8_below HT2.out.2.2.1 (Nat.le_refl _) _⟩
        have e := HR.out
        unfold out8 at e
        obtain ⟨rfl, rfl, rfl, rfl, rfl, rfl, rfl, rfl, rfl⟩ := e
        rfl
  · rw [if_neg hneg] at h
    have c1b0 : decide (t < 0) = false := decide_eq_false hneg
    by_cases hsz : t + 2 ≤ (a0.size : Int) ∧ a0.size ≤ 9223372036854775807
    case neg => rw [if_neg hsz] at h; exact absurd h (by simp)
    rw [if_pos hsz] at h
    obtain ⟨h2, h3⟩ := hsz
    have d0 : (0 : Int) ≤ t := by omega
    have d1 : t ≤ (a0.size : Int) := by omega
    have d2 : (0 : Int) ≤ t + 2 := by omega
    have d3 := wrap_two t a0.size d0 h2 h3
    have d4 : IntKind.i64.wrap (t + 2) = t + 2 := by rw [IntKind.wrap_i64]; omega
    replace h := Option.bind_eq_some_iff.mp h
    obtain ⟨⟨la, one⟩, hla, h⟩ := h
    replace h := Option.bind_eq_some_iff.mp h
    obtain ⟨⟨lb, two⟩, hlb, h⟩ := h
    have HA := Aside0.mk hla
    have HBB := Aside0.mk hlb
    by_cases hsm : la.length ≤ 1000000 ∧ lb.length ≤ 1000000
    case neg => rw [if_neg hsm] at h; exact absurd h (by simp)
    rw [if_pos hsm] at h
    obtain ⟨h4, h5⟩ := hsm
    have d5 : wrap64 ((la.length : Int) + (lb.length : Int)) = (la.length : Int) + (lb.length : Int) := by unfold wrap64; omega
    clear hla hlb ht hneg
    by_cases hok : one = true ∧ two = true ∧ la.length + lb.length ≤ 7
    · rw [if_pos hok] at h
      obtain ⟨rfl, rfl, h7⟩ := hok
      have HR := Aside0.mk (Option.some.inj h)
      have H7 := Aside0.mk h7
      have e0 : decide ((7 : Int) < (la.length : Int) + (lb.length : Int)) = false := decide_eq_false (by omega)
      have e1 : decide (7 < la.length + lb.length) = false := decide_eq_false (by omega)
      clear h h7
      go_enter Tryz.func71, Tryz.ntmps71
      go_wp2_with (first | (go_at_call 105; refine (r03_Groups.calls k _ true lb true w2 HBB.out).mono ?_; rintro e w3 ⟨v, rfl, hR, hB3⟩; have HT3 := Aside0.mk (two_below HT2.out hB3); have HRA3 := Aside0.mk (Kd.R_below HRA.out hB3); have HRB := Aside0.mk hR; clear hB3; obtain ⟨A2, c2, rfl⟩ := Kd.R_slice hR; clear hR) | (go_at_call 105; refine (r03_Groups.calls k _ false la true w1 HA.out).mono ?_; rintro e w2 ⟨v, rfl, hR, hB2⟩; have HT2 := Aside0.mk (two_below HT1.out hB2); have HRA := Aside0.mk hR; clear hB2; obtain ⟨A1, c1, rfl⟩ := Kd.R_slice hR; clear hR) | (go_at_call 104; refine (HG.out _).mono ?_; rintro e w1 ⟨rfl, hB1⟩; have HT1 := Aside0.mk (two_below (two_start w) hB1); clear hB1))
      have HSZ := Aside0.mk HT1.out.2.2.2
      have HSZ2 := Aside0.mk HT2.out.2.2.2
      go_loopw [13] (fun v13 wr => ∃ i : Nat, v13 = .int .i64 (i : Int) ∧ Aside0 (i ≤ la.length) ∧ Aside0 (Two w wr (pl zero8 0 la i)) ∧ Aside0 (∀ q, q ≠ w.heap.size + 1 → wr.heap[q]? = w3.heap[q]?)) (fun v13 _ => 8 - (intOf v13).toNat)
      case atStart => exact ⟨0, rfl, ⟨by omega⟩, ⟨by rw [pl_zero]; exact HT3.out⟩, ⟨fun _ _ => rfl⟩⟩
      case round =>
        obtain ⟨i, rfl, HI, HT, HK⟩ := hrel
        by_cases hlt : i < la.length
        · have c3b0 : decide ((i : Int) < (la.length : Int)) = true := decide_eq_true (by omega)
          have c3b1 : decide (i < la.length) = true := decide_eq_true hlt
          have c3b2 : (0 : Int) ≤ (i : Int) := Int.natCast_nonneg i
          have c3b4 : (i : Int) < (la.length : Int) := by omega
          have c3b3 : (i : Int) < 8 := by have := H7.out; omega
          obtain ⟨gb, rfl, hgb, hx⟩ := row_get HRA3.out i hlt
          replace hx := (cell_heap (HK.out gb (by have := HSZ.out; omega))).trans hx
          have hy := c8_cell HT.out.2.1 i (by omega)
          have hz := frozen8 HT.out.2.1 i
          have HLT := Aside0.mk hlt
          clear hlt hgb
          go_wp2
          go_roundw
          case rel => exact ⟨i + 1, rfl, ⟨HLT.out⟩, ⟨by have h := two_put HT.out (by rw [Nat.zero_add]; have := HLT.out; have := H7.out; omega); rw [Nat.zero_add] at h; exact h⟩, ⟨two_keep HK.out⟩⟩
          case measure => exact measure8 i (by have := HLT.out; have := H7.out; omega)
        · have hi8 : i = la.length := by have := HI.out; omega
          subst hi8
          have c3b0 : decide ((la.length : Int) < (la.length : Int)) = false := decide_eq_false (by omega)
          go_wp2
          go_loopw [14] (fun v14 wr' => ∃ i : Nat, v14 = .int .i64 (i : Int) ∧ Aside0 (i ≤ lb.length) ∧ Aside0 (Two w wr' (pl (pl zero8 0 la la.length) (8 - lb.length) lb i)) ∧ Aside0 (∀ q, q ≠ w.heap.size + 1 → wr'.heap[q]? = w3.heap[q]?)) (fun v14 _ => 8 - (intOf v14).toNat)
          case atStart => exact ⟨0, rfl, ⟨by omega⟩, ⟨by rw [pl_zero]; exact HT.out⟩, ⟨HK.out⟩⟩
          case round =>
            obtain ⟨i, rfl, HI2, HTT, HK2⟩ := hrel
            by_cases hlt : i < lb.length
            · have c4b0 : decide ((i : Int) < (lb.length : Int)) = true := decide_eq_true (by omega)
              have c4b1 : decide (i < lb.length) = true := decide_eq_true hlt
              have c4b2 : (0 : Int) ≤ (i : Int) := Int.natCast_nonneg i
              have c4b4 : (i : Int) < (lb.length : Int) := by omega
              have h70 := H7.out
              have h77 : lb.length ≤ 7 := by omega
              have c5b0 : (0 : Int) ≤ 8 - (lb.length : Int) + (i : Int) := by omega
              have c5b1 : 8 - (lb.length : Int) + (i : Int) < 8 := by omega
              have c5b2 : (8 - (lb.length : Int) + (i : Int)).toNat = 8 - lb.length + i := by omega
              have c5b3 : wrap64 (8 - (lb.length : Int)) = 8 - (lb.length : Int) := by unfold wrap64; omega
              have c5b4 : wrap64 (8 - (lb.length : Int) + (i : Int)) = 8 - (lb.length : Int) + (i : Int) := by unfold wrap64; omega
              obtain ⟨gb, rfl, hgb, hx⟩ := row_get HRB.out i hlt
              replace hx := (cell_heap (HK2.out gb (by have := HSZ2.out; omega))).trans hx
              have hy := c8_cell HTT.out.2.1 (8 - lb.length + i) (by omega)
              have hz := frozen8 HTT.out.2.1 (8 - lb.length + i)
              have HLT := Aside0.mk hlt
              clear hlt hgb h70
              go_wp2
              go_roundw
              case rel => exact ⟨i + 1, rfl, ⟨HLT.out⟩, ⟨two_put HTT.out (by have := HLT.out; omega)⟩, ⟨two_keep HK2.out⟩⟩
              case measure => exact measure8 i (by have := HLT.out; have := H7.out; omega)
            · have hi8 : i = lb.length := by have := HI2.out; omega
              subst hi8
              have c4b0 : decide ((lb.length : Int) < (lb.length : Int)) = false := decide_eq_false (by omega)
              have hy0 := fun i hi => c8_cell HTT.out.2.1 i hi
              have hz0 := fun i hi => c8_cell HTT.out.1 i hi
              have hf0 := frozen8 HTT.out.1
              have hy1 := hy0 0 (by omega)
              have hz1 := hz0 0 (by omega)
              have hf1 := hf0 0
              have hy2 := hy0 1 (by omega)
              have hz2 := hz0 1 (by omega)
              have hf2 := hf0 1
              have hy3 := hy0 2 (by omega)
              have hz3 := hz0 2 (by omega)
              have hf3 := hf0 2
              have hy4 := hy0 3 (by omega)
              have hz4 := hz0 3 (by omega)
              have hf4 := hf0 3
              have hy5 := hy0 4 (by omega)
              have hz5 := hz0 4 (by omega)
              have hf5 := hf0 4
              have hy6 := hy0 5 (by omega)
              have hz6 := hz0 5 (by omega)
              have hf6 := hf0 5
              have hy7 := hy0 6 (by omega)
              have hz7 := hz0 6 (by omega)
              have hf7 := hf0 6
              have hy8 := hy0 7 (by omega)
              have hz8 := hz0 7 (by omega)
              have hf8 := hf0 7
              clear hy0 hz0 hf0
              go_wp2
              refine bodyPost_ret (parse_results _ (put8 wr w.heap.size (pl (pl zero8 0 la la.length) (8 - lb.length) lb lb.length)) w.heap.size (pl (pl zero8 0 la la.length) (8 - lb.length) lb lb.length) (.bool true) rfl (put8_cells HTT.out.1) rfl) rfl ⟨?_, put8_below HTT.out.2.2.1 (Nat.le_refl _) _⟩
              have e := HR.out
              unfold out8 at e
              obtain ⟨rfl, rfl, rfl, rfl, rfl, rfl, rfl, rfl, rfl⟩ := e
              rfl
    · rw [if_neg hok] at h
      have HR := Aside0.mk (Option.some.inj h)
      clear h
      rcases (by cases one <;> cases two <;> simp_all : one = false ∨ (one = true ∧ two = false) ∨ (one = true ∧ two = true ∧ 7 < la.length + lb.length)) with rfl | ⟨rfl, rfl⟩ | ⟨rfl, rfl, h7⟩
      · clear hok
        go_enter Tryz.func71, Tryz.ntmps71
        go_wp2_with (first | (go_at_call 105; refine (r03_Groups.calls k _ true lb two w2 HBB.out).mono ?_; rintro e w3 ⟨v, rfl, hR, hB3⟩; have HT3 := Aside0.mk (two_below HT2.out hB3); have HRA3 := Aside0.mk (Kd.R_below HRA.out hB3); have HRB := Aside0.mk hR; clear hB3; obtain ⟨A2, c2, rfl⟩ := Kd.R_slice hR; clear hR; have hy0 := fun i hi => c8_cell HT3.out.2.1 i hi; have hz0 := fun i hi => c8_cell HT3.out.1 i hi; have hf0 := frozen8 HT3.out.1; have hy1 := hy0 0 (by omega); have hz1 := hz0 0 (by omega); have hf1 := hf0 0; have hy2 := hy0 1 (by omega); have hz2 := hz0 1 (by omega); have hf2 := hf0 1; have hy3 := hy0 2 (by omega); have hz3 := hz0 2 (by omega); have hf3 := hf0 2; have hy4 := hy0 3 (by omega); have hz4 := hz0 3 (by omega); have hf4 := hf0 3; have hy5 := hy0 4 (by omega); have hz5 := hz0 4 (by omega); have hf5 := hf0 4; have hy6 := hy0 5 (by omega); have hz6 := hz0 5 (by omega); have hf6 := hf0 5; have hy7 := hy0 6 (by omega); have hz7 := hz0 6 (by omega); have hf7 := hf0 6; have hy8 := hy0 7 (by omega); have hz8 := hz0 7 (by omega); have hf8 := hf0 7; clear hy0 hz0 hf0) | (go_at_call 105; refine (r03_Groups.calls k _ false la false w1 HA.out).mono ?_; rintro e w2 ⟨v, rfl, hR, hB2⟩; have HT2 := Aside0.mk (two_below HT1.out hB2); have HRA := Aside0.mk hR; clear hB2; obtain ⟨A1, c1, rfl⟩ := Kd.R_slice hR; clear hR) | (go_at_call 104; refine (HG.out _).mono ?_; rintro e w1 ⟨rfl, hB1⟩; have HT1 := Aside0.mk (two_below (two_start w) hB1); clear hB1))
        refine bodyPost_ret (parse_results _ (put8 w3 w.heap.size (zero8)) w.heap.size (zero8) (.bool false) rfl (put8_cells HT3.out.1) rfl) rfl ⟨?_, put8_below HT3.out.2.2.1 (Nat.le_refl _) _⟩
        have e := HR.out
        unfold out8 at e
        obtain ⟨rfl, rfl, rfl, rfl, rfl, rfl, rfl, rfl, rfl⟩ := e
        rfl
      · clear hok
        go_enter Tryz.func71, Tryz.ntmps71
        go_wp2_with (first | (go_at_call 105; refine (r03_Groups.calls k _ true lb false w2 HBB.out).mono ?_; rintro e w3 ⟨v, rfl, hR, hB3⟩; have HT3 := Aside0.mk (two_below HT2.out hB3); have HRA3 := Aside0.mk (Kd.R_below HRA.out hB3); have HRB := Aside0.mk hR; clear hB3; obtain ⟨A2, c2, rfl⟩ := Kd.R_slice hR; clear hR; have hy0 := fun i hi => c8_cell HT3.out.2.1 i hi; have hz0 := fun i hi => c8_cell HT3.out.1 i hi; have hf0 := frozen8 HT3.out.1; have hy1 := hy0 0 (by omega); have hz1 := hz0 0 (by omega); have hf1 := hf0 0; have hy2 := hy0 1 (by omega); have hz2 := hz0 1 (by omega); have hf2 := hf0 1; have hy3 := hy0 2 (by omega); have hz3 := hz0 2 (by omega); have hf3 := hf0 2; have hy4 := hy0 3 (by omega); have hz4 := hz0 3 (by omega); have hf4 := hf0 3; have hy5 := hy0 4 (by omega); have hz5 := hz0 4 (by omega); have hf5 := hf0 4; have hy6 := hy0 5 (by omega); have hz6 := hz0 5 (by omega); have hf6 := hf0 5; have hy7 := hy0 6 (by omega); have hz7 := hz0 6 (by omega); have hf7 := hf0 6; have hy8 := hy0 7 (by omega); have hz8 := hz0 7 (by omega); have hf8 := hf0 7; clear hy0 hz0 hf0) | (go_at_call 105; refine (r03_Groups.calls k _ false la true w1 HA.out).mono ?_; rintro e w2 ⟨v, rfl, hR, hB2⟩; have HT2 := Aside0.mk (two_below HT1.out hB2); have HRA := Aside0.mk hR; clear hB2; obtain ⟨A1, c1, rfl⟩ := Kd.R_slice hR; clear hR) | (go_at_call 104; refine (HG.out _).mono ?_; rintro e w1 ⟨rfl, hB1⟩; have HT1 := Aside0.mk (two_below (two_start w) hB1); clear hB1))
        refine bodyPost_ret (parse_results _ (put8 w3 w.heap.size (zero8)) w.heap.size (zero8) (.bool false) rfl (put8_cells HT3.out.1) rfl) rfl ⟨?_, put8_below HT3.out.2.2.1 (Nat.le_refl _) _⟩
        have e := HR.out
        unfold out8 at e
        obtain ⟨rfl, rfl, rfl, rfl, rfl, rfl, rfl, rfl, rfl⟩ := e
        rfl
      · clear hok
        have e0 : decide ((7 : Int) < (la.length : Int) + (lb.length : Int)) = true := decide_eq_true (by omega)
        have e1 : decide (7 < la.length + lb.length) = true := decide_eq_true (by omega)
        clear h7
        go_enter Tryz.func71, Tryz.ntmps71
        go_wp2_with (first | (go_at_call 105; refine (r03_Groups.calls k _ true lb true w2 HBB.out).mono ?_; rintro e w3 ⟨v, rfl, hR, hB3⟩; have HT3 := Aside0.mk (two_below HT2.out hB3); have HRA3 := Aside0.mk (Kd.R_below HRA.out hB3); have HRB := Aside0.mk hR; clear hB3; obtain ⟨A2, c2, rfl⟩ := Kd.R_slice hR; clear hR; have hy0 := fun i hi => c8_cell HT3.out.2.1 i hi; have hz0 := fun i hi => c8_cell HT3.out.1 i hi; have hf0 := frozen8 HT3.out.1; have hy1 := hy0 0 (by omega); have hz1 := hz0 0 (by omega); have hf1 := hf0 0; have hy2 := hy0 1 (by omega); have hz2 := hz0 1 (by omega); have hf2 := hf0 1; have hy3 := hy0 2 (by omega); have hz3 := hz0 2 (by omega); have hf3 := hf0 2; have hy4 := hy0 3 (by omega); have hz4 := hz0 3 (by omega); have hf4 := hf0 3; have hy5 := hy0 4 (by omega); have hz5 := hz0 4 (by omega); have hf5 := hf0 4; have hy6 := hy0 5 (by omega); have hz6 := hz0 5 (by omega); have hf6 := hf0 5; have hy7 := hy0 6 (by omega); have hz7 := hz0 6 (by omega); have hf7 := hf0 6; have hy8 := hy0 7 (by omega); have hz8 := hz0 7 (by omega); have hf8 := hf0 7; clear hy0 hz0 hf0) | (go_at_call 105; refine (r03_Groups.calls k _ false la true w1 HA.out).mono ?_; rintro e w2 ⟨v, rfl, hR, hB2⟩; have HT2 := Aside0.mk (two_below HT1.out hB2); have HRA := Aside0.mk hR; clear hB2; obtain ⟨A1, c1, rfl⟩ := Kd.R_slice hR; clear hR) | (go_at_call 104; refine (HG.out _).mono ?_; rintro e w1 ⟨rfl, hB1⟩; have HT1 := Aside0.mk (two_below (two_start w) hB1); clear hB1))
        refine bodyPost_ret (parse_results _ (put8 w3 w.heap.size (zero8)) w.heap.size (zero8) (.bool false) rfl (put8_cells HT3.out.1) rfl) rfl ⟨?_, put8_below HT3.out.2.2.1 (Nat.le_refl _) _⟩
        have e := HR.out
        unfold out8 at e
        obtain ⟨rfl, rfl, rfl, rfl, rfl, rfl, rfl, rfl, rfl⟩ := e
        rfl
end Go.Proofs.YthdognlkacjkhaaGreatDoor.P
