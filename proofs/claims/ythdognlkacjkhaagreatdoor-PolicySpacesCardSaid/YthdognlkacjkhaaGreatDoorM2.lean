/-
  Texts of the proof, put together.
-/
import Derived.Test.YthdognlkacjkhaaGreatDoorPb
import Derived.Test.YthdognlkacjkhaaGreatDoorLater
import Derived.OwnWalk
import Derived.RangeFuncRecord
import Derived.Deep.MidRow
import Derived.Deep.QuietTactic
import Derived.BigQuiet
import Derived.Deep.WholeRow
import Derived.Test.YthdognlkacjkhaaGreatDoorRow
section
namespace Go.Proofs.YthdognlkacjkhaaGreatDoor.P
open Go.RowKit Go.Proofs.YthdognlkacjkhaaGreatDoorW.PrintWords Go.Proofs.YthdognlkacjkhaaGreatDoorW.PrintLast Go.Proofs.YthdognlkacjkhaaGreatDoorW.PrintMore
set_option linter.unusedVariables false
set_option linter.unusedSimpArgs false
structure Ad where
  fam : Int
  bs : List Int
def lA (a : Ad) : List Value := .int .i64 a.fam :: a.bs.map (Value.int .u8)
def eA (a : Ad) : Array Value := (lA a).toArray
def Ad.ok (a : Ad) : Prop := a.bs.length = 16 ∧ ∀ x ∈ a.bs, 0 ≤ x ∧ x ≤ 255
def byt (l : List Int) (i : Nat) : Int := l.getD i 0
theorem byt_range {a : Ad} (h : a.ok) (i : Nat) : 0 ≤ byt a.bs i ∧ byt a.bs i ≤ 255 := by
  unfold byt
  rw [List.getD_eq_getElem?_getD]
  by_cases hi : i < a.bs.length
  · rw [List.getElem?_eq_getElem hi]; exact h.2 _ (List.getElem_mem hi)
  · rw [List.getElem?_eq_none (by omega)]; exact ⟨by show (0 : Int) ≤ 0; omega, by show (0 : Int) ≤ 255; omega⟩
theorem eA_fam (a : Ad) : (eA a)[0]? = some (.int .i64 a.fam) := rfl
theorem eA_byte {a : Ad} (h : a.ok) (i : Nat) (hi : i < 16) : (eA a)[1 + i]? = some (.int .u8 (byt a.bs i)) := by
  unfold eA lA byt
  have hl : i < a.bs.length := by rw [h.1]; exact hi
  rw [List.getElem?_toArray, show 1 + i = i + 1 by omega, List.getElem?_cons_succ, List.getElem?_map, List.getElem?_eq_getElem hl, List.getD_eq_getElem?_getD, List.getElem?_eq_getElem hl]
  rfl
theorem eA_size {a : Ad} (h : a.ok) : (eA a).size = 17 := by unfold eA lA; simp [h.1]
theorem eA_one (a : Ad) : (eA a).all (·.oneCell') = true := by
  unfold eA lA
  rw [Array.all_eq_true_iff_forall_mem]
  intro v hv
  simp only [List.mem_toArray, List.mem_cons, List.mem_map] at hv
  rcases hv with rfl | ⟨x, _, rfl⟩ <;> rfl
def bitsOf (f : Int) : Int := if f = 4 then 32 else if f = 6 then 128 else 0
theorem bitsOf_cases (f : Int) : bitsOf f = if (f == 4) = true then 32 else if (f == 6) = true then 128 else 0 := by
  unfold bitsOf
  simp only [beq_iff_eq]
set_option maxHeartbeats 2000000 in
set_option maxRecDepth 100000 in
theorem ref04_Bits (a : Ad) (w : World) : Calls Tryz.prog 75 #[.agg (eA a)] w fun e w' => e = .returned (.int .i64 (bitsOf a.fam)) ∧ Below w.heap.size w w' := by
  have HR := Aside0.mk (bitsOf_cases a.fam)
  cases c0 : (a.fam == 4) <;> cases c1 : (a.fam == 6) <;> rw [c0, c1] at HR
  all_goals
    go_enter Tryz.func75, Tryz.ntmps75
    go_wp2_with ((with_reducible refine gate_dst (N := 1) rfl ?_); refine box_event ?hg (N := 1) ?hd (cs := eA a) (t := 30) ?hr ?_; (case hd => rfl); (case hg => rfl); (case hr => first | (go_simp; done) | (go_simp; rfl)); intro gb hg w1 hbox hb; have h0 : w1.cell? ⟨gb, 0, none⟩ = some (.int .i64 a.fam) := (blk_cell hbox 0).trans (eA_fam a); have HB := Aside0.mk hb; clear hb hg)
    go_ret
    exact ⟨by rw [HR.out]; rfl, HB.out⟩
set_option maxHeartbeats 2000000 in
set_option maxRecDepth 100000 in
theorem addr_Bits (a : Ad) (w : World) : Calls Tryz.prog 48 #[.agg (eA a)] w fun e w' => e = .returned (.int .i64 (bitsOf a.fam)) ∧ Below w.heap.size w w' := by
  have HR := Aside0.mk (bitsOf_cases a.fam)
  cases c0 : (a.fam == 4) <;> cases c1 : (a.fam == 6) <;> rw [c0, c1] at HR
  all_goals
    go_enter Tryz.func48, Tryz.ntmps48
    go_wp2_with ((with_reducible refine gate_dst (N := 1) rfl ?_); refine box_event ?hg (N := 1) ?hd (cs := eA a) (t := 30) ?hr ?_; (case hd => rfl); (case hg => rfl); (case hr => first | (go_simp; done) | (go_simp; rfl)); intro gb hg w1 hbox hb; have h0 : w1.cell? ⟨gb, 0, none⟩ = some (.int .i64 a.fam) := (blk_cell hbox 0).trans (eA_fam a); have HB := Aside0.mk hb; clear hb hg)
    go_ret
    exact ⟨by rw [HR.out]; rfl, HB.out⟩
/-! ### the number of the first four bytes -/
def fourN (l : List Int) : Nat → Int
  | 0 => 0
  | i + 1 => (fourN l i * 256 % 4294967296 + byt l i % 4294967296) % 4294967296
theorem measureA (n i : Nat) (z : Int) (h : z = ((i + 1 : Nat) : Int)) (hi : i < n) : n - (intOf (.int .i64 z)).toNat < n - (intOf (.int .i64 (i : Int))).toNat := by
  subst h
  show n - (((i + 1 : Nat) : Int)).toNat < n - ((i : Nat) : Int).toNat
  rw [Int.toNat_natCast, Int.toNat_natCast]
  omega
set_option maxHeartbeats 2000000 in
set_option maxRecDepth 100000 in
theorem ref04_Four (a : Ad) (ha : a.ok) (w : World) : Calls Tryz.prog 14 #[.agg (eA a)] w fun e w' => e = .returned (.int .u32 (fourN a.bs 4)) ∧ Below w.heap.size w w' := by
  have HA := Aside0.mk ha
  clear ha
  go_enter Tryz.func14, Tryz.ntmps14
  go_wp2_with ((with_reducible refine gate_dst (N := 1) rfl ?_); refine box_event ?hg (N := 1) ?hd (cs := eA a) (t := 30) ?hr ?_; (case hd => rfl); (case hg => rfl); (case hr => first | (go_simp; done) | (go_simp; rfl)); intro gb hg w1 hbox hb; have HX := Aside0.mk hbox; have HB := Aside0.mk hb; clear hb hg hbox)
  go_loopw [3, 4] (fun v3 v4 wr => ∃ i : Nat, v3 = .int .u32 (fourN a.bs i) ∧ v4 = .int .i64 (i : Int) ∧ Aside0 (i ≤ 4) ∧ Aside0 (wr = w1)) (fun _ v4 _ => 4 - (intOf v4).toNat)
  case atStart => exact ⟨0, rfl, rfl, ⟨by omega⟩, ⟨rfl⟩⟩
  case round =>
    obtain ⟨i, rfl, rfl, HI, HE⟩ := hrel
    obtain rfl := HE.out
    by_cases hlt : i < 4
    · have c3b0 : decide ((i : Int) < 4) = true := decide_eq_true (by omega)
      have c3b1 : decide (i < 4) = true := decide_eq_true hlt
      have c3b2 : (0 : Int) ≤ (i : Int) := Int.natCast_nonneg i
      have c3b3 : (i : Int) < 16 := by omega
      have hx := (blk_cell HX.out (1 + i)).trans (eA_byte HA.out i (by omega))
      have e1 : wrap64 ((i : Int) + 1) = ((i + 1 : Nat) : Int) := by unfold wrap64; omega
      have HLT := Aside0.mk hlt
      clear hlt
      go_wp2
      go_roundw
      case rel => exact ⟨i + 1, rfl, rfl, ⟨HLT.out⟩, ⟨trivial⟩⟩
      case measure => exact measureA 4 i _ rfl HLT.out
    · have hi5 : i = 4 := by have := HI.out; omega
      subst hi5
      go_wp2
      go_ret
      exact ⟨rfl, HB.out⟩
/-! ### which one comes first -/
/-- How lists of bytes compare, from a place on: so many places. -/
def cmpB (x y : List Int) : Nat → Nat → Int
  | 0, _ => 0
  | d + 1, i => if byt x i < byt y i then -1 else if byt y i < byt x i then 1 else cmpB x y d (i + 1)
def cmpA (a b : Ad) : Int := if a.fam ≠ b.fam then (if a.fam < b.fam then -1 else 1) else cmpB a.bs b.bs 16 0
theorem cmpB_step (x y : List Int) (i : Nat) (R : Int) (hi : i < 16) (h1 : ¬ byt x i < byt y i) (h2 : ¬ byt y i < byt x i) (h : cmpB x y (16 - i) i = R) : cmpB x y (16 - (i + 1)) (i + 1) = R := by
  rw [show 16 - i = 16 - (i + 1) + 1 by omega, cmpB, if_neg h1, if_neg h2] at h
  exact h
set_option maxHeartbeats 4000000 in
set_option maxRecDepth 100000 in
theorem ref04_Compare (a b : Ad) (ha : a.ok) (hb : b.ok) (w : World) : Calls Tryz.prog 76 #[.agg (eA a), .agg (eA b)] w fun e w' => e = .returned (.int .i64 (cmpA a b)) ∧ Below w.heap.size w w' := by
  have HA := Aside0.mk ha
  have HBB := Aside0.mk hb
  have HR := Aside0.mk (show cmpA a b = if a.fam ≠ b.fam then (if a.fam < b.fam then -1 else 1) else cmpB a.bs b.bs 16 0 from rfl)
  clear ha hb
  have HB := Aside0.mk (Below.refl w.heap.size w)
  by_cases hf : a.fam = b.fam
  · have c1b0 : (a.fam == b.fam) = true := by simpa using hf
    have c1b1 : (a.fam != b.fam) = false := by simpa using hf
    have HR2 := Aside0.mk (HR.out.trans (if_neg (fun h => h hf)))
    have hff := Aside0.mk hf
    clear hf HR
    go_enter Tryz.func76, Tryz.ntmps76
    go_wp2_with (first | ((with_reducible refine gate_dst (N := 2) rfl ?_); refine box_event ?hg (N := 2) ?hd (cs := eA a) (t := 30) ?hr ?_; (case hd => rfl); (case hg => rfl); (case hr => first | (go_simp; done) | (go_simp; rfl)); intro ga hg w1 hbox hb; have HX := Aside0.mk hbox; replace HB := Aside0.mk (below_step (bel_later HB.out) hb); clear hb hg hbox) | ((with_reducible refine gate_dst (N := 3) rfl ?_); refine box_event ?hg (N := 3) ?hd (cs := eA b) (t := 30) ?hr ?_; (case hd => rfl); (case hg => rfl); (case hr => first | (go_simp; done) | (go_simp; rfl)); intro gb hg w2 hbox hb; have HY := Aside0.mk hbox; replace HX := Aside0.mk (blk_below (blk_later HX.out) hb); replace HB := Aside0.mk (below_step (bel_later HB.out) hb); have h0 := (blk_cell HX.out 0).trans (eA_fam a); have h1 := (blk_cell HY.out 0).trans (eA_fam b); clear hb hg hbox))
    go_loopw [5] (fun v5 wr => ∃ i : Nat, v5 = .int .i64 (i : Int) ∧ Aside0 (i ≤ 16) ∧ Aside0 (cmpB a.bs b.bs (16 - i) i = cmpA a b) ∧ Aside0 (wr.heap[ga]? = some (.cells (eA a) 30 (0, 0)) ∧ wr.heap[gb]? = some (.cells (eA b) 30 (0, 0)) ∧ Below w.heap.size w wr)) (fun v5 _ => 16 - (intOf v5).toNat)
    case atStart => exact ⟨0, rfl, ⟨by omega⟩, ⟨HR2.out.symm⟩, ⟨HX.out, HY.out, HB.out⟩⟩
    case round =>
      obtain ⟨i, rfl, HI, HC, HE⟩ := hrel
      clear HX HY HB
      by_cases hlt : i < 16
      · have c3b0 : decide ((i : Int) < 16) = true := decide_eq_true (by omega)
        have c3b1 : decide (i < 16) = true := decide_eq_true hlt
        have c3b2 : (0 : Int) ≤ (i : Int) := Int.natCast_nonneg i
        have c3b3 : (i : Int) < 16 := by omega
        have hx := (blk_cell HE.out.1 (1 + i)).trans (eA_byte HA.out i hlt)
        have hy := (blk_cell HE.out.2.1 (1 + i)).trans (eA_byte HBB.out i hlt)
        have HLT := Aside0.mk hlt
        have HC2 := Aside0.mk (show 16 - i = 16 - (i + 1) + 1 by omega)
        clear hlt
        by_cases h1 : byt a.bs i < byt b.bs i
        · have c4b0 : decide (byt a.bs i < byt b.bs i) = true := decide_eq_true h1
          have HC3 := Aside0.mk (show cmpA a b = -1 by rw [← HC.out, HC2.out, cmpB, if_pos h1])
          clear h1
          go_wp2
          go_quiet (fail)
          go_wp2
          go_ret
          exact ⟨by rw [HC3.out]; first | done | rfl, pw_below_drewN HE.out.2.2 _⟩
        · have c4b0 : decide (byt a.bs i < byt b.bs i) = false := decide_eq_false h1
          by_cases h2 : byt b.bs i < byt a.bs i
          · have c5b0 : decide (byt b.bs i < byt a.bs i) = true := decide_eq_true h2
            have HC3 := Aside0.mk (show cmpA a b = 1 by rw [← HC.out, HC2.out, cmpB, if_neg h1, if_pos h2])
            clear h1 h2
            go_wp2
            go_quiet (fail)
            go_wp2
            go_quiet (fail)
            go_wp2
            go_ret
            exact ⟨by rw [HC3.out]; first | done | rfl, bel_later HE.out.2.2⟩
          · have c5b0 : decide (byt b.bs i < byt a.bs i) = false := decide_eq_false h2
            have HC3 := Aside0.mk (cmpB_step a.bs b.bs i (cmpA a b) HLT.out h1 h2 HC.out)
            clear h1 h2
            go_wp2
            go_quiet (fail)
            go_wp2
            go_quiet (fail)
            go_wp2
            go_roundw
            case rel => exact ⟨i + 1, rfl, ⟨HLT.out⟩, ⟨HC3.out⟩, ⟨blk_later HE.out.1, blk_later HE.out.2.1, bel_later HE.out.2.2⟩⟩
            case measure => exact measureA 16 i _ rfl HLT.out
      · have hi5 : i = 16 := by have := HI.out; omega
        subst hi5
        have HC3 := Aside0.mk (show cmpA a b = 0 from HC.out.symm)
        go_wp2
        go_ret
        exact ⟨by rw [HC3.out]; first | done | rfl, HE.out.2.2⟩
  · have c1b0 : (a.fam == b.fam) = false := by simpa using hf
    have c1b1 : (a.fam != b.fam) = true := by simpa using hf
    have HR2 := Aside0.mk (HR.out.trans (if_pos hf))
    clear hf HR
    by_cases hl : a.fam < b.fam
    · have c2b0 : decide (a.fam < b.fam) = true := decide_eq_true hl
      have HR3 := Aside0.mk (HR2.out.trans (if_pos hl))
      clear hl
      go_enter Tryz.func76, Tryz.ntmps76
      go_wp2_with (first | ((with_reducible refine gate_dst (N := 2) rfl ?_); refine box_event ?hg (N := 2) ?hd (cs := eA a) (t := 30) ?hr ?_; (case hd => rfl); (case hg => rfl); (case hr => first | (go_simp; done) | (go_simp; rfl)); intro ga hg w1 hbox hb; have HX := Aside0.mk hbox; replace HB := Aside0.mk (below_step (bel_later HB.out) hb); clear hb hg hbox) | ((with_reducible refine gate_dst (N := 3) rfl ?_); refine box_event ?hg (N := 3) ?hd (cs := eA b) (t := 30) ?hr ?_; (case hd => rfl); (case hg => rfl); (case hr => first | (go_simp; done) | (go_simp; rfl)); intro gb hg w2 hbox hb; have HY := Aside0.mk hbox; replace HX := Aside0.mk (blk_below (blk_later HX.out) hb); replace HB := Aside0.mk (below_step (bel_later HB.out) hb); have h0 := (blk_cell HX.out 0).trans (eA_fam a); have h1 := (blk_cell HY.out 0).trans (eA_fam b); clear hb hg hbox))
      go_ret
      exact ⟨by rw [HR3.out]; first | done | rfl, HB.out⟩
    · have c2b0 : decide (a.fam < b.fam) = false := decide_eq_false hl
      have HR3 := Aside0.mk (HR2.out.trans (if_neg hl))
      clear hl
      go_enter Tryz.func76, Tryz.ntmps76
      go_wp2_with (first | ((with_reducible refine gate_dst (N := 2) rfl ?_); refine box_event ?hg (N := 2) ?hd (cs := eA a) (t := 30) ?hr ?_; (case hd => rfl); (case hg => rfl); (case hr => first | (go_simp; done) | (go_simp; rfl)); intro ga hg w1 hbox hb; have HX := Aside0.mk hbox; replace HB := Aside0.mk (below_step (bel_later HB.out) hb); clear hb hg hbox) | ((with_reducible refine gate_dst (N := 3) rfl ?_); refine box_event ?hg (N := 3) ?hd (cs := eA b) (t := 30) ?hr ?_; (case hd => rfl); (case hg => rfl); (case hr => first | (go_simp; done) | (go_simp; rfl)); intro gb hg w2 hbox hb; have HY := Aside0.mk hbox; replace HX := Aside0.mk (blk_below (blk_later HX.out) hb); replace HB := Aside0.mk (below_step (bel_later HB.out) hb); have h0 := (blk_cell HX.out 0).trans (eA_fam a); have h1 := (blk_cell HY.out 0).trans (eA_fam b); clear hb hg hbox))
      go_ret
      exact ⟨by rw [HR3.out]; first | done | rfl, HB.out⟩
def zeros16 : List Int := [0, 0, 0, 0, 0, 0, 0, 0, 0, 0, 0, 0, 0, 0, 0, 0]
def noA : Ad := ⟨0, zeros16⟩
theorem ok_zeros (f : Int) : Ad.ok ⟨f, zeros16⟩ := ⟨rfl, show ∀ x ∈ zeros16, 0 ≤ x ∧ x ≤ 255 by decide⟩
theorem ok_noA : noA.ok := ok_zeros 0
theorem ok_set {a : Ad} (h : a.ok) (i : Nat) (v : Int) (h0 : 0 ≤ v) (h1 : v ≤ 255) : Ad.ok ⟨a.fam, a.bs.set i v⟩ := by
  refine ⟨by rw [List.length_set]; exact h.1, fun x hx => ?_⟩
  rcases List.mem_or_eq_of_mem_set hx with h2 | h2
  · exact h.2 x h2
  · rw [h2]; exact ⟨h0, h1⟩
theorem eA_set (a : Ad) (i : Nat) (v : Int) : (eA a).setIfInBounds (1 + i) (.int .u8 v) = eA ⟨a.fam, a.bs.set i v⟩ := by
  unfold eA lA
  rw [List.setIfInBounds_toArray, show 1 + i = i + 1 by omega, List.set_cons_succ, List.map_set]
theorem eA_fset (a : Ad) (f : Int) : (eA a).setIfInBounds 0 (.int .i64 f) = eA ⟨f, a.bs⟩ := by
  unfold eA lA
  rw [List.setIfInBounds_toArray, List.set_cons_zero]
theorem infoA : (Tryz.prog.info? 30).map (·.size) = some 17 := by kernel_rfl
theorem infoE {a : Ad} (h : a.ok) : (Tryz.prog.info? 30).map (·.size) = some (eA a).size := by rw [eA_size h]; exact infoA
/-- The bytes of a number, from the last one on: behind so many rounds. -/
def of4L (n : Int) : Nat → List Int × Int
  | 0 => (zeros16, n)
  | k + 1 => ((of4L n k).1.set (3 - k) (Int.tmod (of4L n k).2 256 % 256), Int.tdiv (of4L n k).2 256 % 4294967296)
def of4 (n : Int) : Ad := ⟨4, (of4L n 4).1⟩
theorem ok_of4L (n : Int) : ∀ k, Ad.ok ⟨4, (of4L n k).1⟩
  | 0 => ok_zeros 4
  | k + 1 => ok_set (ok_of4L n k) (3 - k) _ (Int.emod_nonneg _ (by decide)) (by have := Int.emod_lt_of_pos (Int.tmod (of4L n k).2 256) (show (0 : Int) < 256 by decide); omega)
theorem ok_of4 (n : Int) : (of4 n).ok := ok_of4L n 4
set_option maxHeartbeats 4000000 in
set_option maxRecDepth 100000 in
theorem ref04_Of4 (n : Int) (w : World) : Calls Tryz.prog 13 #[.int .u32 n] w fun e w' => e = .returned (.agg (eA (of4 n))) ∧ Below w.heap.size w w' := by
  have HB := Aside0.mk (Below.refl w.heap.size w)
  go_enter Tryz.func13, Tryz.ntmps13
  go_wp2_with (first
    | ((with_reducible refine gate_dst (N := 2) rfl ?_); refine box_event ?hg (N := 2) ?hd (cs := eA noA) (t := 30) ?hr ?_; (case hd => rfl); (case hg => rfl); (case hr => first | (go_simp; done) | (go_simp; rfl)); intro g2 hg w1 hbox hb; have HX := Aside0.mk hbox; have HG2 := Aside0.mk (show w.heap.size ≤ g2 by rw [hg]; exact below_size (bel_later HB.out)); replace HB := Aside0.mk (below_step (bel_later HB.out) hb); clear hb hg hbox)
    | ((with_reducible refine gate_dst (N := 5) rfl ?_); refine Kd.event_run (v := .agg (eA ⟨4, zeros16⟩)) rfl ?hr ?_; (case hr => first | (go_simp; done) | (go_simp; rfl)))
    | ((with_reducible refine gate_dst (N := 3) rfl ?_); refine box_event ?hg (N := 3) ?hd (cs := eA noA) (t := 30) ?hr ?_; (case hd => rfl); (case hg => rfl); (case hr => first | (go_simp; done) | (go_simp; rfl)); intro g3 hg w2 hbox hb; have HY := Aside0.mk hbox; have HN := Aside0.mk (show g2 ≠ g3 by rw [hg]; exact Nat.ne_of_lt (blk_lt (blk_later HX.out))); have HG3 := Aside0.mk (show w.heap.size ≤ g3 by rw [hg]; exact below_size (bel_later HB.out)); replace HX := Aside0.mk (blk_below (blk_later HX.out) hb); replace HB := Aside0.mk (below_step (bel_later HB.out) hb); clear hb hg hbox)
    | ((with_reducible refine gate_store (t := 30) (p := 3) rfl ?_); refine wpList_store_row rfl 30 (.tmp 3) (.tmp 5) rfl g3 (eA ⟨4, zeros16⟩) rfl rfl 30 (eA noA) HY.out infoA rfl (eA_one _) ?_; replace HX := Aside0.mk ((row_far (cells := eA ⟨4, zeros16⟩) HN.out).trans HX.out); replace HY := Aside0.mk (row_new (cells := eA ⟨4, zeros16⟩) HY.out); replace HB := Aside0.mk (below_row HB.out HG3.out (eA ⟨4, zeros16⟩)); generalize w2.setRow g3 (eA ⟨4, zeros16⟩) = w3 at HX HY HB ⊢))
  have HGG := HG2
  clear HG2
  go_loopw [0, 4] (fun v0 v4 wr => ∃ (k : Nat) (z m : Int), v0 = .int .u32 m ∧ v4 = .int .i64 z ∧ Aside0 (k ≤ 4) ∧ Aside0 (z = 3 - (k : Int)) ∧ Aside0 (m = (of4L n k).2) ∧ Aside0 (wr.heap[g2]? = some (.cells (eA noA) 30 (0, 0)) ∧ wr.heap[g3]? = some (.cells (eA ⟨4, (of4L n k).1⟩) 30 (0, 0)) ∧ Below w.heap.size w wr)) (fun _ v4 _ => (intOf v4 + 1).toNat)
  case atStart => exact ⟨0, 3, n, rfl, rfl, ⟨by omega⟩, ⟨rfl⟩, ⟨rfl⟩, ⟨HX.out, HY.out, HB.out⟩⟩
  case round =>
    obtain ⟨k, z, m, rfl, rfl, HI, HZ, HM, HE⟩ := hrel
    clear HX HY HB
    have HX := Aside0.mk HE.out.1
    have HY := Aside0.mk HE.out.2.1
    have HB := Aside0.mk HE.out.2.2
    clear HE
    by_cases hlt : k < 4
    · obtain ⟨i, hi⟩ : ∃ i : Nat, i = 3 - k := ⟨_, rfl⟩
      have hz : z = (i : Int) := by have := HZ.out; omega
      subst hz
      have HLT := Aside0.mk (show i < 16 ∧ 0 < 4 - k by omega)
      have c3b0 : decide ((0 : Int) ≤ (i : Int)) = true := decide_eq_true (Int.natCast_nonneg i)
      have c3b2 : (0 : Int) ≤ (i : Int) := Int.natCast_nonneg i
      have c3b3 : (i : Int) < 16 := by omega
      have hx := (blk_cell HY.out (1 + i)).trans (eA_byte (ok_of4L n k) i (by omega))
      have hfz := blk_frozen HY.out (1 + i)
      have HS := Aside0.mk (show of4L n (k + 1) = ((of4L n k).1.set (3 - k) (Int.tmod (of4L n k).2 256 % 256), Int.tdiv (of4L n k).2 256 % 4294967296) from rfl)
      have HK := Aside0.mk hlt
      have HI2 := Aside0.mk hi
      clear hlt hi
      go_wp2
      go_roundw
      case rel => exact ⟨k + 1, (i : Int) - 1, _, rfl, rfl, ⟨HK.out⟩, ⟨by have := HI2.out; have := HK.out; omega⟩, ⟨by rw [HS.out, HM.out]⟩, ⟨(Below.heap_setCell wr _ _ _ HN.out).trans HX.out, by
          have h := blk_put HY.out (1 + i) (.int .u8 (Int.tmod m 256 % 256)) (eA_set ⟨4, (of4L n k).1⟩ i _)
          rw [HS.out, ← HI2.out, ← HM.out]
          exact h, HB.out.setCell HG3.out _⟩⟩
      case measure =>
        show ((i : Int) - 1 + 1).toNat < ((i : Int) + 1).toNat
        omega
    · have hk : k = 4 := by have := HI.out; omega
      subst hk
      have hz : z = -1 := by have := HZ.out; omega
      subst hz
      go_wp2_with (first
        | ((with_reducible refine gate_dst (N := 18) rfl ?_); refine wpList_load_row rfl 30 (.tmp 3) rfl g3 rfl 30 (eA (of4 n)) (0, 0) _ HY.out Tryz.underlying30 rfl (infoE (ok_of4 n)) ?_)
        | ((with_reducible refine gate_store (t := 30) (p := 2) rfl ?_); refine wpList_store_row rfl 30 (.tmp 2) (.tmp 18) rfl g2 (eA (of4 n)) rfl rfl 30 (eA noA) HX.out (infoE (ok_of4 n)) ((eA_size ok_noA).trans (eA_size (ok_of4 n)).symm) (eA_one _) ?_; replace HX := Aside0.mk (row_new (cells := eA (of4 n)) HX.out); have HG2 := Aside0.mk (below_row HB.out HGG.out (eA (of4 n)))))
      refine bodyPost_ret (results_cell_row rfl _ _ g2 30 (eA (of4 n)) (0, 0) _ rfl HX.out Tryz.underlying30 rfl (infoE (ok_of4 n))) rfl ?_
      exact ⟨rfl, HG2.out⟩
/-- An address that may be, not none, made of any. -/
def goodA (a : Ad) : Ad := if Int.tmod a.fam 2 = 0 then of4 (fourN a.bs 4) else ⟨6, a.bs⟩
theorem ok_goodA {a : Ad} (h : a.ok) : (goodA a).ok := by
  unfold goodA
  split
  · exact ok_of4 _
  · exact h
set_option maxHeartbeats 4000000 in
set_option maxRecDepth 100000 in
theorem ref04_Good (a : Ad) (ha : a.ok) (w : World) : Calls Tryz.prog 5 #[.agg (eA a)] w fun e w' => e = .returned (.agg (eA (goodA a))) ∧ Below w.heap.size w w' := by
  have HB := Aside0.mk (Below.refl w.heap.size w)
  have HA := Aside0.mk ha
  clear ha
  by_cases hp : Int.tmod a.fam 2 = 0
  · have c1b0 : (Int.tmod a.fam 2 == 0) = true := by simpa using hp
    have HR := Aside0.mk (show goodA a = of4 (fourN a.bs 4) from if_pos hp)
    clear hp
    go_enter Tryz.func5, Tryz.ntmps5
    go_wp2_with (first
      | ((with_reducible refine gate_dst (N := 1) rfl ?_); refine box_event ?hg (N := 1) ?hd (cs := eA a) (t := 30) ?hr ?_; (case hd => rfl); (case hg => rfl); (case hr => first | (go_simp; done) | (go_simp; rfl)); intro g1 hg w1 hbox hb; have HX := Aside0.mk hbox; have HG1 := Aside0.mk (show w.heap.size ≤ g1 by rw [hg]; exact below_size (bel_later HB.out)); replace HB := Aside0.mk (below_step (bel_later HB.out) hb); clear hb hg hbox)
      | ((with_reducible refine gate_dst (N := 2) rfl ?_); refine box_event ?hg (N := 2) ?hd (cs := eA noA) (t := 30) ?hr ?_; (case hd => rfl); (case hg => rfl); (case hr => first | (go_simp; done) | (go_simp; rfl)); intro g2 hg w2 hbox hb; have HY := Aside0.mk hbox; have HG2 := Aside0.mk (show w.heap.size ≤ g2 by rw [hg]; exact below_size (bel_later HB.out)); replace HX := Aside0.mk (blk_below (blk_later HX.out) hb); replace HB := Aside0.mk (below_step (bel_later HB.out) hb); have h0 := (blk_cell HX.out 0).trans (eA_fam a); clear hb hg hbox)
      | ((with_reducible refine gate_dst (N := 7) rfl ?_); refine wpList_load_row rfl 30 (.tmp 1) rfl g1 rfl 30 (eA a) (0, 0) _ HX.out Tryz.underlying30 rfl (infoE HA.out) ?_)
      | (go_at_call 14; refine (ref04_Four a HA.out w2).mono ?_; rintro e w3 ⟨rfl, hb⟩; have HY3 := Aside0.mk (blk_below HY.out hb); have HB3 := Aside0.mk (below_step HB.out hb); clear hb)
      | (go_at_call 13; refine (ref04_Of4 (fourN a.bs 4) w3).mono ?_; rintro e w4 ⟨rfl, hb⟩; have HY4 := Aside0.mk (blk_below HY3.out hb); have HB4 := Aside0.mk (below_step HB3.out hb); clear hb)
      | ((with_reducible refine gate_store (t := 30) (p := 2) rfl ?_); refine wpList_store_row rfl 30 (.tmp 2) (.tmp 9) rfl g2 (eA (of4 (fourN a.bs 4))) rfl rfl 30 (eA noA) HY4.out (infoE (ok_of4 _)) ((eA_size ok_noA).trans (eA_size (ok_of4 _)).symm) (eA_one _) ?_; have HY5 := Aside0.mk (row_new (cells := eA (of4 (fourN a.bs 4))) HY4.out); have HB5 := Aside0.mk (below_row HB4.out HG2.out (eA (of4 (fourN a.bs 4))))))
    refine bodyPost_ret (results_cell_row rfl _ _ g2 30 (eA (of4 (fourN a.bs 4))) (0, 0) _ rfl HY5.out Tryz.underlying30 rfl (infoE (ok_of4 _))) rfl ?_
    exact ⟨by rw [HR.out], HB5.out⟩
  · have c1b0 : (Int.tmod a.fam 2 == 0) = false := by simpa using hp
    have HR := Aside0.mk (show goodA a = ⟨6, a.bs⟩ from if_neg hp)
    have HO := Aside0.mk (show Ad.ok ⟨6, a.bs⟩ from HA.out)
    clear hp
    go_enter Tryz.func5, Tryz.ntmps5
    go_wp2_with (first
      | ((with_reducible refine gate_dst (N := 1) rfl ?_); refine box_event ?hg (N := 1) ?hd (cs := eA a) (t := 30) ?hr ?_; (case hd => rfl); (case hg => rfl); (case hr => first | (go_simp; done) | (go_simp; rfl)); intro g1 hg w1 hbox hb; have HX := Aside0.mk hbox; have HG1 := Aside0.mk (show w.heap.size ≤ g1 by rw [hg]; exact below_size (bel_later HB.out)); replace HB := Aside0.mk (below_step (bel_later HB.out) hb); clear hb hg hbox)
      | ((with_reducible refine gate_dst (N := 2) rfl ?_); refine box_event ?hg (N := 2) ?hd (cs := eA noA) (t := 30) ?hr ?_; (case hd => rfl); (case hg => rfl); (case hr => first | (go_simp; done) | (go_simp; rfl)); intro g2 hg w2 hbox hb; have HY := Aside0.mk hbox; have HG2 := Aside0.mk (show w.heap.size ≤ g2 by rw [hg]; exact below_size (bel_later HB.out)); have HN := Aside0.mk (show g1 ≠ g2 by rw [hg]; exact Nat.ne_of_lt (blk_lt (blk_later HX.out))); replace HX := Aside0.mk (blk_below (blk_later HX.out) hb); replace HB := Aside0.mk (below_step (bel_later HB.out) hb); have h0 := (blk_cell HX.out 0).trans (eA_fam a); have hfz := blk_frozen HX.out 0; clear hb hg hbox)
      | ((with_reducible refine gate_dst (N := 11) rfl ?_); have HX3 := Aside0.mk (blk_put HX.out 0 (.int .i64 6) (eA_fset a 6)); have HY3 := Aside0.mk ((Below.heap_setCell w2 ⟨g1, 0, none⟩ (.int .i64 6) g2 HN.out.symm).trans HY.out); have HB3 := Aside0.mk (HB.out.setCell (p := ⟨g1, 0, none⟩) HG1.out (.int .i64 6)); generalize w2.setCell ⟨g1, 0, none⟩ (.int .i64 6) = w3 at HX3 HY3 HB3 ⊢; refine wpList_load_row rfl 30 (.tmp 1) rfl g1 rfl 30 (eA ⟨6, a.bs⟩) (0, 0) _ HX3.out Tryz.underlying30 rfl (infoE HO.out) ?_)
      | ((with_reducible refine gate_store (t := 30) (p := 2) rfl ?_); refine wpList_store_row rfl 30 (.tmp 2) (.tmp 11) rfl g2 (eA ⟨6, a.bs⟩) rfl rfl 30 (eA noA) HY3.out (infoE HO.out) ((eA_size ok_noA).trans (eA_size HO.out).symm) (eA_one _) ?_; have HY5 := Aside0.mk (row_new (cells := eA ⟨6, a.bs⟩) HY3.out); have HB5 := Aside0.mk (below_row HB3.out HG2.out (eA ⟨6, a.bs⟩))))
    refine bodyPost_ret (results_cell_row rfl _ _ g2 30 (eA ⟨6, a.bs⟩) (0, 0) _ rfl HY5.out Tryz.underlying30 rfl (infoE HO.out)) rfl ?_
    exact ⟨by rw [HR.out], HB5.out⟩
/-- A byte's bit, the highest one first. -/
def bit8 (c k : Nat) : Nat := c / 2 ^ (7 - k) % 2
def bitA (a : Ad) (i : Int) : Int := if i < 0 then 0 else if bitsOf a.fam ≤ i then 0 else (bit8 (byt a.bs (i.toNat / 8)).toNat (i.toNat % 8) : Int)
theorem bitsOf_le (f : Int) : 0 ≤ bitsOf f ∧ bitsOf f ≤ 128 := by
  unfold bitsOf
  split
  · omega
  · split <;> omega
theorem half_step (c k R : Nat) (hk : k < 7) (h : c / 2 ^ (7 - k) = R) : c / 2 / 2 ^ (7 - (k + 1)) = R := by
  rw [Nat.div_div_eq_div_mul, ← h]
  congr 1
  rw [show 7 - k = 7 - (k + 1) + 1 by omega, Nat.pow_succ, Nat.mul_comm]
theorem half_le (c : Nat) (h : c ≤ 255) : c / 2 ≤ 255 := by omega
theorem wrap_sm (c : Nat) (h : c ≤ 1000000) : wrap64 (c : Int) = (c : Int) := by unfold wrap64; omega
theorem wrap_sm1 (k : Nat) (h : k ≤ 1000000) : wrap64 ((k : Int) + 1) = ((k + 1 : Nat) : Int) := by unfold wrap64; omega
theorem le_mil {k n : Nat} (h : k ≤ n) (hn : n ≤ 255) : k ≤ 1000000 := by omega
set_option maxHeartbeats 4000000 in
set_option maxRecDepth 100000 in
theorem ref04_Bit (a : Ad) (ha : a.ok) (i : Int) (w : World) : Calls Tryz.prog 52 #[.agg (eA a), .int .i64 i] w fun e w' => e = .returned (.int .i64 (bitA a i)) ∧ Below w.heap.size w w' := by
  have HB := Aside0.mk (Below.refl w.heap.size w)
  have HA := Aside0.mk ha
  clear ha
  by_cases h0 : i < 0
  · have c1b0 : decide (i < 0) = true := decide_eq_true h0
    have HR := Aside0.mk (show bitA a i = 0 by unfold bitA; rw [if_pos h0])
    clear h0
    go_enter Tryz.func52, Tryz.ntmps52
    go_wp2_with (first
      | ((with_reducible refine gate_dst (N := 2) rfl ?_); refine box_event ?hg (N := 2) ?hd (cs := eA a) (t := 30) ?hr ?_; (case hd => rfl); (case hg => rfl); (case hr => first | (go_simp; done) | (go_simp; rfl)); intro g1 hg w1 hbox hb; have HX := Aside0.mk hbox; replace HB := Aside0.mk (below_step (bel_later HB.out) hb); clear hb hg hbox))
    go_ret
    exact ⟨by rw [HR.out]; first | done | rfl, HB.out⟩
  · have c1b0 : decide (i < 0) = false := decide_eq_false h0
    by_cases h1 : bitsOf a.fam ≤ i
    · have c2b0 : decide (bitsOf a.fam ≤ i) = true := decide_eq_true h1
      have HR := Aside0.mk (show bitA a i = 0 by unfold bitA; rw [if_neg h0, if_pos h1])
      clear h0 h1
      go_enter Tryz.func52, Tryz.ntmps52
      go_wp2_with (first
        | ((with_reducible refine gate_dst (N := 2) rfl ?_); refine box_event ?hg (N := 2) ?hd (cs := eA a) (t := 30) ?hr ?_; (case hd => rfl); (case hg => rfl); (case hr => first | (go_simp; done) | (go_simp; rfl)); intro g1 hg w1 hbox hb; have HX := Aside0.mk hbox; replace HB := Aside0.mk (below_step (bel_later HB.out) hb); clear hb hg hbox)
        | ((with_reducible refine gate_dst (N := 11) rfl ?_); (refine gate_guard (by rfl) ?_; dsimp only); refine wpList_load_row rfl 30 (.tmp 2) rfl g1 rfl 30 (eA a) (0, 0) _ HX.out Tryz.underlying30 rfl (infoE HA.out) ?_)
        | (go_at_call 75; refine (ref04_Bits a w1).mono ?_; rintro e w2 ⟨rfl, hb⟩; have HX2 := Aside0.mk (blk_below HX.out hb); have HB2 := Aside0.mk (below_step HB.out hb); clear hb))
      go_ret
      exact ⟨by rw [HR.out]; first | done | rfl, HB2.out⟩
    · have c2b0 : decide (bitsOf a.fam ≤ i) = false := decide_eq_false h1
      obtain ⟨j, rfl⟩ := Int.eq_ofNat_of_zero_le (show 0 ≤ i by omega)
      have hj : j < 128 := by have := bitsOf_le a.fam; omega
      obtain ⟨c0, hc0⟩ := Int.eq_ofNat_of_zero_le (byt_range HA.out (j / 8)).1
      have hc1 := (byt_range HA.out (j / 8)).2
      have HR := Aside0.mk (show bitA a (j : Int) = (bit8 c0 (j % 8) : Int) by unfold bitA; rw [if_neg h0, if_neg h1, Int.toNat_natCast, hc0, Int.toNat_natCast])
      have e8 : (j : Int).tdiv 8 = ((j / 8 : Nat) : Int) := by rw [Int.tdiv_eq_ediv_of_nonneg (Int.natCast_nonneg _)]; rfl
      have r8 : (j : Int).tmod 8 = ((j % 8 : Nat) : Int) := by rw [Int.tmod_eq_emod_of_nonneg (Int.natCast_nonneg _)]; rfl
      have c3b2 : (0 : Int) ≤ ((j / 8 : Nat) : Int) := Int.natCast_nonneg _
      have c3b3 : ((j / 8 : Nat) : Int) < 16 := by omega
      have HJ := Aside0.mk (show j % 8 < 8 ∧ c0 ≤ 255 ∧ j / 8 < 16 by rw [hc0] at hc1; omega)
      have w0 : wrap64 (c0 : Int) = (c0 : Int) := by rw [hc0] at hc1; unfold wrap64; omega
      have HC0 := Aside0.mk hc0
      clear h0 h1 hc0 hc1 hj
      generalize j / 8 = q at e8 c3b2 c3b3 HJ HC0
      generalize j % 8 = k0 at r8 HJ HR
      go_enter Tryz.func52, Tryz.ntmps52
      go_wp2_with (first
        | ((with_reducible refine gate_dst (N := 2) rfl ?_); refine box_event ?hg (N := 2) ?hd (cs := eA a) (t := 30) ?hr ?_; (case hd => rfl); (case hg => rfl); (case hr => first | (go_simp; done) | (go_simp; rfl)); intro g1 hg w1 hbox hb; have HX := Aside0.mk hbox; replace HB := Aside0.mk (below_step (bel_later HB.out) hb); clear hb hg hbox)
        | ((with_reducible refine gate_dst (N := 11) rfl ?_); (refine gate_guard (by rfl) ?_; dsimp only); refine wpList_load_row rfl 30 (.tmp 2) rfl g1 rfl 30 (eA a) (0, 0) _ HX.out Tryz.underlying30 rfl (infoE HA.out) ?_)
        | (go_at_call 75; refine (ref04_Bits a w1).mono ?_; rintro e w2 ⟨rfl, hb⟩; have HX2 := Aside0.mk (blk_below HX.out hb); have HB2 := Aside0.mk (below_step HB.out hb); have hx := (blk_cell HX2.out (1 + q)).trans (eA_byte HA.out q HJ.out.2.2); rw [HC0.out] at hx; clear hb))
      go_loopw [5, 6] (fun v5 v6 wr => ∃ c k : Nat, v5 = .int .i64 (c : Int) ∧ v6 = .int .i64 (k : Int) ∧ Aside0 (k ≤ 7) ∧ Aside0 (c ≤ 255) ∧ Aside0 (c / 2 ^ (7 - k) = c0 / 2 ^ (7 - k0)) ∧ Aside0 (wr = w2)) (fun _ v6 _ => 7 - (intOf v6).toNat)
      case atStart => exact ⟨c0, k0, (by first | rfl | exact congrArg (Value.int .i64) w0), rfl, ⟨by have := HJ.out.1; omega⟩, ⟨HJ.out.2.1⟩, ⟨rfl⟩, ⟨rfl⟩⟩
      case round =>
        obtain ⟨c, k, rfl, rfl, HK, HC, HD, HE⟩ := hrel
        obtain rfl := HE.out
        by_cases hlt : k < 7
        · have c3b0 : decide ((k : Int) < 7) = true := decide_eq_true (by omega)
          have c3b1 : decide (k < 7) = true := decide_eq_true hlt
          have e2 : (c : Int).tdiv 2 = ((c / 2 : Nat) : Int) := by rw [Int.tdiv_eq_ediv_of_nonneg (Int.natCast_nonneg _)]; rfl
          have e3 : wrap64 ((c / 2 : Nat) : Int) = ((c / 2 : Nat) : Int) := wrap_sm _ (le_mil (half_le c HC.out) (by decide))
          have e4 : wrap64 ((k : Int) + 1) = ((k + 1 : Nat) : Int) := wrap_sm1 k (le_mil HK.out (by decide))
          have HLT := Aside0.mk hlt
          have HE4 := Aside0.mk e4
          have HE3 := Aside0.mk e3
          have HN := Aside0.mk (half_step c k _ hlt HD.out)
          have HN2 := Aside0.mk (half_le c HC.out)
          clear hlt
          generalize c / 2 = c' at e2 e3 HE3 HN HN2
          go_wp2
          go_roundw
          case rel => exact ⟨c', k + 1, (by first | rfl | exact congrArg (Value.int .i64) HE3.out), (by first | rfl | exact congrArg (Value.int .i64) HE4.out), ⟨HLT.out⟩, HN2, HN, ⟨trivial⟩⟩
          case measure => exact measureA 7 k _ (by first | rfl | exact HE4.out) HLT.out
        · have hk : k = 7 := by have := HK.out; omega
          subst hk
          have e2 : (c : Int).tmod 2 = ((c % 2 : Nat) : Int) := by rw [Int.tmod_eq_emod_of_nonneg (Int.natCast_nonneg _)]; rfl
          have HF := Aside0.mk (show ((c % 2 : Nat) : Int) = bitA a (j : Int) by rw [HR.out]; unfold bit8; rw [← HD.out]; simp)
          generalize c % 2 = c' at e2 HF
          go_wp2
          go_ret
          exact ⟨by rw [← HF.out]; first | done | rfl, HB2.out⟩

end Go.Proofs.YthdognlkacjkhaaGreatDoor.P
end
