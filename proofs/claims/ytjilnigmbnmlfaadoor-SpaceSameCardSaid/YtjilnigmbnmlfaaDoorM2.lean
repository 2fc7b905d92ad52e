/-
  Texts of the proof, put together.
-/
import Derived.Test.YtjilnigmbnmlfaaDoorPb
import Derived.Test.YtjilnigmbnmlfaaDoorLater
import Derived.OwnWalk
import Derived.RangeFuncRecord
import Derived.Deep.MidRow
import Derived.Deep.QuietTactic
import Derived.BigQuiet
import Derived.Deep.WholeRow
import Derived.Test.YtjilnigmbnmlfaaDoorRow
section
namespace Go.Proofs.YtjilnigmbnmlfaaDoor.P
open Go.RowKit Go.Proofs.YtjilnigmbnmlfaaDoorW.PrintWords Go.Proofs.YtjilnigmbnmlfaaDoorW.PrintLast Go.Proofs.YtjilnigmbnmlfaaDoorW.PrintMore
set_option linter.unusedVariables false
set_option linter.unusedSimpArgs false
structure Ad where
  fam : Int
  bs : List Int
def lA (a : Ad) : List Value := .int .i64 a.fam :: a.bs.map (Value.int .u8)
def eA (a : Ad) : Array Value := (lA a).toArray
def Ad.ok (a : Ad) : Prop := a.bs.length = 16 ∧ ∀ x ∈ a.bs, 0 ≤ x ∧ x ≤ 255
def byt (l : List Int) (i : Nat) : Int := l.getD i 0
theorem byt_range {a : Ad} (h : a.ok) (i : Nat) : 0 ≤ byt a.bs i ∧ byt a.bs i ≤ 255 := by
  unfold byt
  rw [List.getD_eq_getElem?_getD]
  by_cases hi : i < a.bs.length
  · rw [List.getElem?_eq_getElem hi]; exact h.2 _ (List.getElem_mem hi)
  · rw [List.getElem?_eq_none (by omega)]; exact ⟨by show (0 : Int) ≤ 0; omega, by show (0 : Int) ≤ 255; omega⟩
theorem eA_fam (a : Ad) : (eA a)[0]? = some (.int .i64 a.fam) := rfl
theorem eA_byte {a : Ad} (h : a.ok) (i : Nat) (hi : i < 16) : (eA a)[1 + i]? = some (.int .u8 (byt a.bs i)) := by
  unfold eA lA byt
  have hl : i < a.bs.length := by rw [h.1]; exact hi
  rw [List.getElem?_toArray, show 1 + i = i + 1 by omega, List.getElem?_cons_succ, List.getElem?_map, List.getElem?_eq_getElem hl, List.getD_eq_getElem?_getD, List.getElem?_eq_getElem hl]
  rfl
theorem eA_size {a : Ad} (h : a.ok) : (eA a).size = 17 := by unfold eA lA; simp [h.1]
theorem eA_one (a : Ad) : (eA a).all (·.oneCell') = true := by
  unfold eA lA
  rw [Array.all_eq_true_iff_forall_mem]
  intro v hv
  simp only [List.mem_toArray, List.mem_cons, List.mem_map] at hv
  rcases hv with rfl | ⟨x, _, rfl⟩ <;> rfl
def bitsOf (f : Int) : Int := if f = 4 then 32 else if f = 6 then 128 else 0
theorem bitsOf_cases (f : Int) : bitsOf f = if (f == 4) = true then 32 else if (f == 6) = true then 128 else 0 := by
  unfold bitsOf
  simp only [beq_iff_eq]
set_option maxHeartbeats 2000000 in
set_option maxRecDepth 100000 in
theorem addr_Bits (a : Ad) (w : World) : Calls Tryd.prog 44 #[.agg (eA a)] w fun e w' => e = .returned (.int .i64 (bitsOf a.fam)) ∧ Below w.heap.size w w' := by
  have HR := Aside0.mk (bitsOf_cases a.fam)
  cases c0 : (a.fam == 4) <;> cases c1 : (a.fam == 6) <;> rw [c0, c1] at HR
  all_goals
    go_enter Tryd.func44, Tryd.ntmps44
    go_wp2_with ((with_reducible refine gate_dst (N := 1) rfl ?_); refine box_event ?hg (N := 1) ?hd (cs := eA a) (t := 28) ?hr ?_; (case hd => rfl); (case hg => rfl); (case hr => first | (go_simp; done) | (go_simp; rfl)); intro gb hg w1 hbox hb; have h0 : w1.cell? ⟨gb, 0, none⟩ = some (.int .i64 a.fam) := (blk_cell hbox 0).trans (eA_fam a); have HB := Aside0.mk hb; clear hb hg)
    go_ret
    exact ⟨by rw [HR.out]; rfl, HB.out⟩
/-! ### the number of the first four bytes -/
def fourN (l : List Int) : Nat → Int
  | 0 => 0
  | i + 1 => (fourN l i * 256 % 4294967296 + byt l i % 4294967296) % 4294967296
theorem measureA (n i : Nat) (z : Int) (h : z = ((i + 1 : Nat) : Int)) (hi : i < n) : n - (intOf (.int .i64 z)).toNat < n - (intOf (.int .i64 (i : Int))).toNat := by
  subst h
  show n - (((i + 1 : Nat) : Int)).toNat < n - ((i : Nat) : Int).toNat
  rw [Int.toNat_natCast, Int.toNat_natCast]
  omega
set_option maxHeartbeats 2000000 in
set_option maxRecDepth 100000 in
theorem ref04_Four (a : Ad) (ha : a.ok) (w : World) : Calls Tryd.prog 30 #[.agg (eA a)] w fun e w' => e = .returned (.int .u32 (fourN a.bs 4)) ∧ Below w.heap.size w w' := by
  have HA := Aside0.mk ha
  clear ha
  go_enter Tryd.func30, Tryd.ntmps30
  go_wp2_with ((with_reducible refine gate_dst (N := 1) rfl ?_); refine box_event ?hg (N := 1) ?hd (cs := eA a) (t := 28) ?hr ?_; (case hd => rfl); (case hg => rfl); (case hr => first | (go_simp; done) | (go_simp; rfl)); intro gb hg w1 hbox hb; have HX := Aside0.mk hbox; have HB := Aside0.mk hb; clear hb hg hbox)
  go_loopw [3, 4] (fun v3 v4 wr => ∃ i : Nat, v3 = .int .u32 (fourN a.bs i) ∧ v4 = .int .i64 (i : Int) ∧ Aside0 (i ≤ 4) ∧ Aside0 (wr = w1)) (fun _ v4 _ => 4 - (intOf v4).toNat)
  case atStart => exact ⟨0, rfl, rfl, ⟨by omega⟩, ⟨rfl⟩⟩
  case round =>
    obtain ⟨i, rfl, rfl, HI, HE⟩ := hrel
    obtain rfl := HE.out
    by_cases hlt : i < 4
    · have c3b0 : decide ((i : Int) < 4) = true := decide_eq_true (by omega)
      have c3b1 : decide (i < 4) = true := decide_eq_true hlt
      have c3b2 : (0 : Int) ≤ (i : Int) := Int.natCast_nonneg i
      have c3b3 : (i : Int) < 16 := by omega
      have hx := (blk_cell HX.out (1 + i)).trans (eA_byte HA.out i (by omega))
      have e1 : wrap64 ((i : Int) + 1) = ((i + 1 : Nat) : Int) := by unfold wrap64; omega
      have HLT := Aside0.mk hlt
      clear hlt
      go_wp2
      go_roundw
      case rel => exact ⟨i + 1, rfl, rfl, ⟨HLT.out⟩, ⟨trivial⟩⟩
      case measure => exact measureA 4 i _ rfl HLT.out
    · have hi5 : i = 4 := by have := HI.out; omega
      subst hi5
      go_wp2
      go_ret
      exact ⟨rfl, HB.out⟩
/-! ### which one comes first -/
/-- How lists of bytes compare, from a place on: so many places. -/
def cmpB (x y : List Int) : Nat → Nat → Int
  | 0, _ => 0
  | d + 1, i => if byt x i < byt y i then -1 else if byt y i < byt x i then 1 else cmpB x y d (i + 1)
def cmpA (a b : Ad) : Int := if a.fam ≠ b.fam then (if a.fam < b.fam then -1 else 1) else cmpB a.bs b.bs 16 0
def zeros16 : List Int := [0, 0, 0, 0, 0, 0, 0, 0, 0, 0, 0, 0, 0, 0, 0, 0]
def noA : Ad := ⟨0, zeros16⟩
theorem ok_zeros (f : Int) : Ad.ok ⟨f, zeros16⟩ := ⟨rfl, show ∀ x ∈ zeros16, 0 ≤ x ∧ x ≤ 255 by decide⟩
theorem ok_noA : noA.ok := ok_zeros 0
theorem ok_set {a : Ad} (h : a.ok) (i : Nat) (v : Int) (h0 : 0 ≤ v) (h1 : v ≤ 255) : Ad.ok ⟨a.fam, a.bs.set i v⟩ := by
  refine ⟨by rw [List.length_set]; exact h.1, fun x hx => ?_⟩
  rcases List.mem_or_eq_of_mem_set hx with h2 | h2
  · exact h.2 x h2
  · rw [h2]; exact ⟨h0, h1⟩
theorem eA_set (a : Ad) (i : Nat) (v : Int) : (eA a).setIfInBounds (1 + i) (.int .u8 v) = eA ⟨a.fam, a.bs.set i v⟩ := by
  unfold eA lA
  rw [List.setIfInBounds_toArray, show 1 + i = i + 1 by omega, List.set_cons_succ, List.map_set]
theorem infoA : (Tryd.prog.info? 28).map (·.size) = some 17 := by kernel_rfl
theorem infoE {a : Ad} (h : a.ok) : (Tryd.prog.info? 28).map (·.size) = some (eA a).size := by rw [eA_size h]; exact infoA
/-- The bytes of a number, from the last one on: behind so many rounds. -/
def of4L (n : Int) : Nat → List Int × Int
  | 0 => (zeros16, n)
  | k + 1 => ((of4L n k).1.set (3 - k) (Int.tmod (of4L n k).2 256 % 256), Int.tdiv (of4L n k).2 256 % 4294967296)
def of4 (n : Int) : Ad := ⟨4, (of4L n 4).1⟩
theorem ok_of4L (n : Int) : ∀ k, Ad.ok ⟨4, (of4L n k).1⟩
  | 0 => ok_zeros 4
  | k + 1 => ok_set (ok_of4L n k) (3 - k) _ (Int.emod_nonneg _ (by decide)) (by have := Int.emod_lt_of_pos (Int.tmod (of4L n k).2 256) (show (0 : Int) < 256 by decide); omega)
theorem ok_of4 (n : Int) : (of4 n).ok := ok_of4L n 4
set_option maxHeartbeats 4000000 in
set_option maxRecDepth 100000 in
theorem ref04_Of4 (n : Int) (w : World) : Calls Tryd.prog 8 #[.int .u32 n] w fun e w' => e = .returned (.agg (eA (of4 n))) ∧ Below w.heap.size w w' := by
  have HB := Aside0.mk (Below.refl w.heap.size w)
  go_enter Tryd.func8, Tryd.ntmps8
  go_wp2_with (first
    | ((with_reducible refine gate_dst (N := 2) rfl ?_); refine box_event ?hg (N := 2) ?hd (cs := eA noA) (t := 28) ?hr ?_; (case hd => rfl); (case hg => rfl); (case hr => first | (go_simp; done) | (go_simp; rfl)); intro g2 hg w1 hbox hb; have HX := Aside0.mk hbox; have HG2 := Aside0.mk (show w.heap.size ≤ g2 by rw [hg]; exact below_size (bel_later HB.out)); replace HB := Aside0.mk (below_step (bel_later HB.out) hb); clear hb hg hbox)
    | ((with_reducible refine gate_dst (N := 5) rfl ?_); refine Kd.event_run (v := .agg (eA ⟨4, zeros16⟩)) rfl ?hr ?_; (case hr => first | (go_simp; done) | (go_simp; rfl)))
    | ((with_reducible refine gate_dst (N := 3) rfl ?_); refine box_event ?hg (N := 3) ?hd (cs := eA noA) (t := 28) ?hr ?_; (case hd => rfl); (case hg => rfl); (case hr => first | (go_simp; done) | (go_simp; rfl)); intro g3 hg w2 hbox hb; have HY := Aside0.mk hbox; have HN := Aside0.mk (show g2 ≠ g3 by rw [hg]; exact Nat.ne_of_lt (blk_lt (blk_later HX.out))); have HG3 := Aside0.mk (show w.heap.size ≤ g3 by rw [hg]; exact below_size (bel_later HB.out)); replace HX := Aside0.mk (blk_below (blk_later HX.out) hb); replace HB := Aside0.mk (below_step (bel_later HB.out) hb); clear hb hg hbox)
    | ((with_reducible refine gate_store (t := 28) (p := 3) rfl ?_); refine wpList_store_row rfl 28 (.tmp 3) (.tmp 5) rfl g3 (eA ⟨4, zeros16⟩) rfl rfl 28 (eA noA) HY.out infoA rfl (eA_one _) ?_; replace HX := Aside0.mk ((row_far (cells := eA ⟨4, zeros16⟩) HN.out).trans HX.out); replace HY := Aside0.mk (row_new (cells := eA ⟨4, zeros16⟩) HY.out); replace HB := Aside0.mk (below_row HB.out HG3.out (eA ⟨4, zeros16⟩)); generalize w2.setRow g3 (eA ⟨4, zeros16⟩) = w3 at HX HY HB ⊢))
  have HGG := HG2
  clear HG2
  go_loopw [0, 4] (fun v0 v4 wr => ∃ (k : Nat) (z m : Int), v0 = .int .u32 m ∧ v4 = .int .i64 z ∧ Aside0 (k ≤ 4) ∧ Aside0 (z = 3 - (k : Int)) ∧ Aside0 (m = (of4L n k).2) ∧ Aside0 (wr.heap[g2]? = some (.cells (eA noA) 28 (0, 0)) ∧ wr.heap[g3]? = some (.cells (eA ⟨4, (of4L n k).1⟩) 28 (0, 0)) ∧ Below w.heap.size w wr)) (fun _ v4 _ => (intOf v4 + 1).toNat)
  case atStart => exact ⟨0, 3, n, rfl, rfl, ⟨by omega⟩, ⟨rfl⟩, ⟨rfl⟩, ⟨HX.out, HY.out, HB.out⟩⟩
  case round =>
    obtain ⟨k, z, m, rfl, rfl, HI, HZ, HM, HE⟩ := hrel
    clear HX HY HB
    have HX := Aside0.mk HE.out.1
    have HY := Aside0.mk HE.out.2.1
    have HB := Aside0.mk HE.out.2.2
    clear HE
    by_cases hlt : k < 4
    · obtain ⟨i, hi⟩ : ∃ i : Nat, i = 3 - k := ⟨_, rfl⟩
      have hz : z = (i : Int) := by have := HZ.out; omega
      subst hz
      have HLT := Aside0.mk (show i < 16 ∧ 0 < 4 - k by omega)
      have c3b0 : decide ((0 : Int) ≤ (i : Int)) = true := decide_eq_true (Int.natCast_nonneg i)
      have c3b2 : (0 : Int) ≤ (i : Int) := Int.natCast_nonneg i
      have c3b3 : (i : Int) < 16 := by omega
      have hx := (blk_cell HY.out (1 + i)).trans (eA_byte (ok_of4L n k) i (by omega))
      have hfz := blk_frozen HY.out (1 + i)
      have HS := Aside0.mk (show of4L n (k + 1) = ((of4L n k).1.set (3 - k) (Int.tmod (of4L n k).2 256 % 256), Int.tdiv (of4L n k).2 256 % 4294967296) from rfl)
      have HK := Aside0.mk hlt
      have HI2 := Aside0.mk hi
      clear hlt hi
      go_wp2
      go_roundw
      case rel => exact ⟨k + 1, (i : Int) - 1, _, rfl, rfl, ⟨HK.out⟩, ⟨by have := HI2.out; have := HK.out; omega⟩, ⟨by rw [HS.out, HM.out]⟩, ⟨(Below.heap_setCell wr _ _ _ HN.out).trans HX.out, by
          have h := blk_put HY.out (1 + i) (.int .u8 (Int.tmod m 256 % 256)) (eA_set ⟨4, (of4L n k).1⟩ i _)
          rw [HS.out, ← HI2.out, ← HM.out]
          exact h, HB.out.setCell HG3.out _⟩⟩
      case measure =>
        show ((i : Int) - 1 + 1).toNat < ((i : Int) + 1).toNat
        omega
    · have hk : k = 4 := by have := HI.out; omega
      subst hk
      have hz : z = -1 := by have := HZ.out; omega
      subst hz
      go_wp2_with (first
        | ((with_reducible refine gate_dst (N := 18) rfl ?_); refine wpList_load_row rfl 28 (.tmp 3) rfl g3 rfl 28 (eA (of4 n)) (0, 0) _ HY.out Tryd.underlying28 rfl (infoE (ok_of4 n)) ?_)
        | ((with_reducible refine gate_store (t := 28) (p := 2) rfl ?_); refine wpList_store_row rfl 28 (.tmp 2) (.tmp 18) rfl g2 (eA (of4 n)) rfl rfl 28 (eA noA) HX.out (infoE (ok_of4 n)) ((eA_size ok_noA).trans (eA_size (ok_of4 n)).symm) (eA_one _) ?_; replace HX := Aside0.mk (row_new (cells := eA (of4 n)) HX.out); have HG2 := Aside0.mk (below_row HB.out HGG.out (eA (of4 n)))))
      refine bodyPost_ret (results_cell_row rfl _ _ g2 28 (eA (of4 n)) (0, 0) _ rfl HX.out Tryd.underlying28 rfl (infoE (ok_of4 n))) rfl ?_
      exact ⟨rfl, HG2.out⟩
/-- A byte's bit, the highest one first. -/
def bit8 (c k : Nat) : Nat := c / 2 ^ (7 - k) % 2
def bitA (a : Ad) (i : Int) : Int := if i < 0 then 0 else if bitsOf a.fam ≤ i then 0 else (bit8 (byt a.bs (i.toNat / 8)).toNat (i.toNat % 8) : Int)
theorem bitsOf_le (f : Int) : 0 ≤ bitsOf f ∧ bitsOf f ≤ 128 := by
  unfold bitsOf
  split
  · omega
  · split <;> omega
theorem wrap_sm1 (k : Nat) (h : k ≤ 1000000) : wrap64 ((k : Int) + 1) = ((k + 1 : Nat) : Int) := by unfold wrap64; omega

end Go.Proofs.YtjilnigmbnmlfaaDoor.P
end
