/-
  Prefixes cut down and held to be such as may be, as the program tells it.
-/
import Derived.Test.YthjhbhgfckaklaaM4
namespace Go.Proofs.Ythjhbhgfckaklaa.P
open Go.RowKit Go.Proofs.YthjhbhgfckaklaaW.PrintWords Go.Proofs.YthjhbhgfckaklaaW.PrintLast Go.Proofs.YthjhbhgfckaklaaW.PrintMore
set_option linter.unusedVariables false
set_option linter.unusedSimpArgs false
/-- A byte with one bit, the highest one first, put to 0. -/
def clrB (b : Int) (k : Nat) : Int := bits .andNot .u8 b (2 ^ (7 - k) % 256)
theorem clrB_range (b : Int) (k : Nat) : 0 ≤ clrB b k ∧ clrB b k ≤ 255 := bits_within .andNot .u8 b _
theorem wrap_7 (k : Nat) (h : k < 8) : wrap64 (7 - (k : Int)) = ((7 - k : Nat) : Int) := by unfold wrap64; omega
theorem or_none (x : Int) (h : 0 ≤ x ∧ x ≤ 255) : bits .or .u8 x 0 = x := by
  have := bits_join .u8 8 (by decide) wraps_u8 0 x 0 h.1 (by simp) (by omega) (by decide) (by decide) (by decide)
  rw [this]
  omega
def fillL (a : Ad) (n : Int) : Nat → List Int
  | 0 => a.bs
  | i + 1 => if n ≤ (i : Int) then (fillL a n i).set (i / 8) (clrB (byt (fillL a n i) (i / 8)) (i % 8)) else fillL a n i
def fillA (a : Ad) (n : Int) : Ad := ⟨a.fam, fillL a n (bitsOf a.fam).toNat⟩
theorem ok_fillL (a : Ad) (ha : a.ok) (n : Int) : ∀ k, Ad.ok ⟨a.fam, fillL a n k⟩
  | 0 => ha
  | k + 1 => by
    rw [fillL]
    split
    · exact ok_set (ok_fillL a ha n k) (k / 8) _ (clrB_range _ _).1 (clrB_range _ _).2
    · exact ok_fillL a ha n k
theorem ok_fillA (a : Ad) (ha : a.ok) (n : Int) : (fillA a n).ok := ok_fillL a ha n _
theorem fill_step1 (a : Ad) (n : Int) (i : Nat) (h : n ≤ (i : Int)) : fillL a n (i + 1) = (fillL a n i).set (i / 8) (clrB (byt (fillL a n i) (i / 8)) (i % 8)) := by rw [fillL, if_pos h]
theorem fill_step2 (a : Ad) (n : Int) (i : Nat) (h : ¬ n ≤ (i : Int)) : fillL a n (i + 1) = fillL a n i := by rw [fillL, if_neg h]
set_option maxHeartbeats 4000000 in
set_option maxRecDepth 100000 in
theorem cidr_fill (a : Ad) (ha : a.ok) (n : Int) (w : World) : Calls Try.prog 71 #[.agg (eA a), .int .i64 n, .int .i64 0] w fun e w' => e = .returned (.agg (eA (fillA a n))) ∧ Below w.heap.size w w' := by
  have HB := Aside0.mk (Below.refl w.heap.size w)
  have HA := Aside0.mk ha
  have HW := Aside0.mk (show fillA a n = ⟨a.fam, fillL a n (bitsOf a.fam).toNat⟩ from rfl)
  clear ha
  go_enter Try.func71, Try.ntmps71
  go_wp2_with (first
    | ((with_reducible refine gate_dst (N := 3) rfl ?_); refine box_event ?hg (N := 3) ?hd (cs := eA a) (t := 34) ?hr ?_; (case hd => rfl); (case hg => rfl); (case hr => first | (go_simp; done) | (go_simp; rfl)); intro g3 hg w1 hbox hb; have HX := Aside0.mk hbox; have HG3 := Aside0.mk (show w.heap.size ≤ g3 by rw [hg]; exact below_size (bel_later HB.out)); replace HB := Aside0.mk (below_step (bel_later HB.out) hb); clear hb hg hbox)
    | ((with_reducible refine gate_dst (N := 6) rfl ?_); refine box_event ?hg (N := 6) ?hd (cs := eA noA) (t := 34) ?hr ?_; (case hd => rfl); (case hg => rfl); (case hr => first | (go_simp; done) | (go_simp; rfl)); intro g6 hg w2 hbox hb; have HY := Aside0.mk hbox; have HN := Aside0.mk (show g3 ≠ g6 by rw [hg]; exact Nat.ne_of_lt (blk_lt (blk_later HX.out))); have HG6 := Aside0.mk (show w.heap.size ≤ g6 by rw [hg]; exact below_size (bel_later HB.out)); replace HX := Aside0.mk (blk_below (blk_later HX.out) hb); replace HB := Aside0.mk (below_step (bel_later HB.out) hb); clear hb hg hbox)
    | ((with_reducible refine gate_dst (N := 9) rfl ?_); refine wpList_load_row rfl 34 (.tmp 3) rfl g3 rfl 34 (eA a) (0, 0) _ HX.out Try.underlying34 rfl (infoE HA.out) ?_)
    | (go_at_call 45; refine (addr_Bits a w2).mono ?_; rintro e w3 ⟨rfl, hb⟩; replace HX := Aside0.mk (blk_below HX.out hb); replace HY := Aside0.mk (blk_below HY.out hb); replace HB := Aside0.mk (below_step HB.out hb); clear hb))
  go_loopw [11] (fun v11 wr => ∃ i : Nat, v11 = .int .i64 (i : Int) ∧ Aside0 (i ≤ (bitsOf a.fam).toNat) ∧ Aside0 (wr.heap[g3]? = some (.cells (eA ⟨a.fam, fillL a n i⟩) 34 (0, 0)) ∧ wr.heap[g6]? = some (.cells (eA noA) 34 (0, 0)) ∧ Below w.heap.size w wr)) (fun v11 _ => (bitsOf a.fam).toNat - (intOf v11).toNat)
  case atStart => exact ⟨0, rfl, ⟨Nat.zero_le _⟩, ⟨HX.out, HY.out, HB.out⟩⟩
  case round =>
    obtain ⟨i, rfl, HI, HE⟩ := hrel
    clear HX HY HB
    have HX := Aside0.mk HE.out.1
    have HY := Aside0.mk HE.out.2.1
    have HB := Aside0.mk HE.out.2.2
    clear HE
    by_cases hlt : i < (bitsOf a.fam).toNat
    · have hi : i < 128 := by have := bitsOf_le a.fam; omega
      have c3b0 : decide ((i : Int) < bitsOf a.fam) = true := decide_eq_true (by omega)
      have c3b2 : (0 : Int) ≤ ((i / 8 : Nat) : Int) := Int.natCast_nonneg _
      have c3b3 : ((i / 8 : Nat) : Int) < 16 := by omega
      have HQ := Aside0.mk (show i / 8 < 16 ∧ i % 8 < 8 by omega)
      have e8 : (i : Int).tdiv 8 = ((i / 8 : Nat) : Int) := by rw [Int.tdiv_eq_ediv_of_nonneg (Int.natCast_nonneg _)]; rfl
      have r8 : (i : Int).tmod 8 = ((i % 8 : Nat) : Int) := by rw [Int.tmod_eq_emod_of_nonneg (Int.natCast_nonneg _)]; rfl
      have e4 : wrap64 ((i : Int) + 1) = ((i + 1 : Nat) : Int) := wrap_sm1 i (by omega)
      have HE4 := Aside0.mk e4
      have HLT := Aside0.mk hlt
      clear hlt hi
      by_cases hf : n ≤ (i : Int)
      · have c4b0 : decide (n ≤ (i : Int)) = true := decide_eq_true hf
        have HS := Aside0.mk (fill_step1 a n i hf)
        clear hf
        generalize i / 8 = q at e8 c3b2 c3b3 HQ HS
        generalize i % 8 = k0 at r8 HQ HS
        have hx := (blk_cell HX.out (1 + q)).trans (eA_byte (ok_fillL a HA.out n i) q HQ.out.1)
        have hfz := blk_frozen HX.out (1 + q)
        have hsh0 : ∀ w : World, (Op.shift .shl .u8 1 .i64 ((7 - k0 : Nat) : Int)).run Try.prog w = .ok (.int .u8 (2 ^ (7 - k0) % 256)) w := fun w => by
          rw [shift_shl_any .u8 .i64 1 _ (Int.natCast_nonneg _), Int.toNat_natCast, IntKind.wrap_u8, Int.one_mul, Nat.min_eq_left (show 7 - k0 ≤ IntKind.u8.bits by show 7 - k0 ≤ 8; omega)]
          rfl
        have e7 : wrap64 (7 - (k0 : Int)) = ((7 - k0 : Nat) : Int) := wrap_7 k0 HQ.out.2
        have HC := Aside0.mk (show clrB (byt (fillL a n i) q) k0 = bits .andNot .u8 (byt (fillL a n i) q) (2 ^ (7 - k0) % 256) from rfl)
        have HCR := Aside0.mk (clrB_range (byt (fillL a n i) q) k0)
        generalize ((7 - k0 : Nat) : Int) = z at hsh0 e7
        generalize ((2 : Int) ^ (7 - k0) % 256) = m at hsh0 HC
        have hor := or_none _ HCR.out
        rw [HC.out] at hor
        generalize byt (fillL a n i) q = b at hx hor HC HS HCR
        go_wp2
        go_roundw
        case rel => exact ⟨i + 1, (by first | rfl | exact congrArg (Value.int .i64) HE4.out), ⟨HLT.out⟩, ⟨by
            have h1 := blk_put HX.out (1 + q) (.int .u8 (bits .andNot .u8 b m)) (eA_set ⟨a.fam, fillL a n i⟩ q _)
            have h2 := blk_put h1 (1 + q) (.int .u8 (bits .andNot .u8 b m)) (eA_set ⟨a.fam, (fillL a n i).set q (bits .andNot .u8 b m)⟩ q _)
            rw [List.set_set] at h2
            rw [HS.out, HC.out]
            exact h2, (Below.heap_setCell _ _ _ _ (Ne.symm HN.out)).trans ((Below.heap_setCell wr _ _ _ (Ne.symm HN.out)).trans HY.out), (HB.out.setCell HG3.out _).setCell HG3.out _⟩⟩
        case measure => exact measureA _ i _ (by first | rfl | exact HE4.out) HLT.out
      · have c4b0 : decide (n ≤ (i : Int)) = false := decide_eq_false hf
        have HS := Aside0.mk (fill_step2 a n i hf)
        clear hf
        go_wp2
        go_roundw
        case rel => exact ⟨i + 1, (by first | rfl | exact congrArg (Value.int .i64) HE4.out), ⟨HLT.out⟩, ⟨by rw [HS.out]; exact HX.out, HY.out, HB.out⟩⟩
        case measure => exact measureA _ i _ (by first | rfl | exact HE4.out) HLT.out
    · have hk : i = (bitsOf a.fam).toNat := by have := HI.out; omega
      have c3b0 : decide ((i : Int) < bitsOf a.fam) = false := decide_eq_false (by have := bitsOf_le a.fam; omega)
      rw [hk, ← HW.out] at HX
      clear hlt hk
      have HO := Aside0.mk (ok_fillA a HA.out n)
      go_wp2_with (first
        | ((with_reducible refine gate_dst (N := 43) rfl ?_); refine wpList_load_row rfl 34 (.tmp 3) rfl g3 rfl 34 (eA (fillA a n)) (0, 0) _ HX.out Try.underlying34 rfl (infoE HO.out) ?_)
        | ((with_reducible refine gate_store (t := 34) (p := 6) rfl ?_); refine wpList_store_row rfl 34 (.tmp 6) (.tmp 43) rfl g6 (eA (fillA a n)) rfl rfl 34 (eA noA) HY.out (infoE HO.out) ((eA_size ok_noA).trans (eA_size HO.out).symm) (eA_one _) ?_; have HY6 := Aside0.mk (row_new (cells := eA (fillA a n)) HY.out); have HB6 := Aside0.mk (below_row HB.out HG6.out (eA (fillA a n)))))
      refine bodyPost_ret (results_cell_row rfl _ _ g6 34 (eA (fillA a n)) (0, 0) _ rfl HY6.out Try.underlying34 rfl (infoE HO.out)) rfl ?_
      exact ⟨rfl, HB6.out⟩
/-! ### cidr.Mask, cidr.May -/
def maskQ (a : Ad) (n : Int) : Pf := ⟨fillA a (maskN a n), maskN a n⟩
theorem ok_maskQ (a : Ad) (ha : a.ok) (n : Int) : (maskQ a n).a.ok := ok_fillA a ha _
set_option maxHeartbeats 4000000 in
set_option maxRecDepth 100000 in
theorem cidr_Mask (a : Ad) (ha : a.ok) (n : Int) (w : World) : Calls Try.prog 47 #[.agg (eA a), .int .i64 n] w fun e w' => e = .returned (.agg (eP (maskQ a n))) ∧ Below w.heap.size w w' := by
  have HB := Aside0.mk (Below.refl w.heap.size w)
  have HA := Aside0.mk ha
  have HO := Aside0.mk (ok_maskQ a ha n)
  have HM := Aside0.mk (show (if bitsOf a.fam < (if n < 0 then 0 else n) then bitsOf a.fam else (if n < 0 then 0 else n)) = maskN a n from rfl)
  clear ha
  go_enter Try.func47, Try.ntmps47
  go_wp2_with (first
    | ((with_reducible refine gate_dst (N := 2) rfl ?_); refine box_event ?hg (N := 2) ?hd (cs := eA a) (t := 34) ?hr ?_; (case hd => rfl); (case hg => rfl); (case hr => first | (go_simp; done) | (go_simp; rfl)); intro g2 hg w1 hbox hb; have HX := Aside0.mk hbox; replace HB := Aside0.mk (below_step (bel_later HB.out) hb); clear hb hg hbox)
    | ((with_reducible refine gate_dst (N := 4) rfl ?_); refine box_event ?hg (N := 4) ?hd (cs := eP noP) (t := 39) ?hr ?_; (case hd => rfl); (case hg => rfl); (case hr => first | (go_simp; done) | (go_simp; rfl)); intro g4 hg w2 hbox hb; have HY := Aside0.mk hbox; have HG4 := Aside0.mk (show w.heap.size ≤ g4 by rw [hg]; exact below_size (bel_later HB.out)); replace HX := Aside0.mk (blk_below (blk_later HX.out) hb); replace HB := Aside0.mk (below_step (bel_later HB.out) hb); clear hb hg hbox)
    | ((with_reducible refine gate_dst (N := 8) rfl ?_); refine wpList_load_row rfl 34 (.tmp 2) rfl g2 rfl 34 (eA a) (0, 0) _ HX.out Try.underlying34 rfl (infoE HA.out) ?_)
    | (go_at_call 45; refine (addr_Bits a w2).mono ?_; rintro e w3 ⟨rfl, hb⟩; have HX3 := Aside0.mk (blk_below HX.out hb); have HY3 := Aside0.mk (blk_below HY.out hb); have HB3 := Aside0.mk (below_step HB.out hb); clear hb)
    | ((with_reducible refine gate_dst (N := 11) rfl ?_); refine wpList_load_row rfl 34 (.tmp 2) rfl g2 rfl 34 (eA a) (0, 0) _ HX3.out Try.underlying34 rfl (infoE HA.out) ?_)
    | (go_at_call 71; rw [HM.out]; refine (cidr_fill a HA.out (maskN a n) w3).mono ?_; rintro e w4 ⟨rfl, hb⟩; have HY4 := Aside0.mk (blk_below HY3.out hb); have HB4 := Aside0.mk (below_step HB3.out hb); clear hb)
    | ((with_reducible refine gate_dst (N := 15) rfl ?_); refine wpList_buildTo rfl 39 _ rfl _ rfl (eP (maskQ a n)) ?hbb ?_; (case hbb => rw [List.map_toArray]; exact built_pf HO.out (maskN a n)))
    | ((with_reducible refine gate_store (t := 39) (p := 4) rfl ?_); refine wpList_store_row rfl 39 (.tmp 4) (.tmp 15) rfl g4 (eP (maskQ a n)) rfl rfl 39 (eP noP) HY4.out (infoEP HO.out) ((eP_size (p := noP) ok_noA).trans (eP_size HO.out).symm) (eP_one _) ?_; have HY5 := Aside0.mk (row_new (cells := eP (maskQ a n)) HY4.out); have HB5 := Aside0.mk (below_row HB4.out HG4.out (eP (maskQ a n)))))
  all_goals
    refine bodyPost_ret (results_cell_row rfl _ _ g4 39 (eP (maskQ a n)) (0, 0) _ rfl HY5.out Try.underlying39 rfl (infoEP HO.out)) rfl ?_
    exact ⟨rfl, HB5.out⟩
end Go.Proofs.Ythjhbhgfckaklaa.P
