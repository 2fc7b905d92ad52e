/-
  The document's parse of an address, of a prefix; the texts of its first table.
-/
import Derived.Test.YthdognlkacjkhaaGreatDoorSpaV
import Derived.Test.YthdognlkacjkhaaGreatDoorSixQ
import Derived.Test.YthdognlkacjkhaaGreatDoorM14
namespace Go.Proofs.YthdognlkacjkhaaGreatDoor.P
open Go.RowKit Go.Proofs.YthdognlkacjkhaaGreatDoorW.PrintWords Go.Proofs.YthdognlkacjkhaaGreatDoorW.PrintLast Go.Proofs.YthdognlkacjkhaaGreatDoorW.PrintMore
set_option linter.unusedVariables false
set_option linter.unusedSimpArgs false
theorem number_below (k : Nat) (d : ByteArray) (n : Int) (b : Bool) (h : r01_Number.f k d 10 = some (n, b)) (w : World) : Calls Tryz.prog 42 #[.string d, .int .i64 10] w fun e w1 => e = .returned (.tuple #[.int .i64 n, .bool b]) ∧ Below w.heap.size w w1 :=
  (r01_Number.calls k d 10 n b w h).mono (fun e w1 ⟨he, nd, hd⟩ => ⟨he, by rw [hd]; exact pw_below_drewN (Below.refl _ _) nd⟩)
/-- What abatisref04.Parse hands back at a text: this address. -/
def AdOkR (s : ByteArray) (a : Ad) : Prop := ∀ w : World, MaxIs w → Calls Tryz.prog 41 #[.string s] w fun e w' => e = .returned (.tuple #[.agg (eA a), .bool true]) ∧ Below w.heap.size w w'
set_option maxHeartbeats 4000000 in
set_option maxRecDepth 100000 in
theorem ref04_Parse4 (s : ByteArray) (n : Int) (h0 : 0 ≤ n) (h1 : n < 4294967296) (hs : ∀ w : World, MaxIs w → Calls Tryz.prog 70 #[.string s] w fun e w' => e = .returned (.tuple #[.int .u32 n, .bool true]) ∧ Below w.heap.size w w') : AdOkR s (of4 n) := fun w hmx => by
  have HB := Aside0.mk (Below.refl w.heap.size w)
  have HMX := Aside0.mk hmx
  have HS := Aside0.mk hs
  have HO := Aside0.mk (ok_of4 n)
  clear hmx hs
  go_enter Tryz.func41, Tryz.ntmps41
  go_wp2_with (first
    | ((with_reducible refine gate_dst (N := 2) rfl ?_); refine box_event ?hg (N := 2) ?hd (cs := eA noA) (t := 30) ?hr ?_; (case hd => rfl); (case hg => rfl); (case hr => first | (go_simp; done) | (go_simp; rfl)); intro k2 hg w2 hbox hb; have H2 := Aside0.mk hbox; have HG2 := Aside0.mk (show w.heap.size ≤ k2 by rw [hg]; exact HB.out.size); skip; replace HB := Aside0.mk (below_step HB.out hb); clear hb hg hbox)
    | (go_at_call 70; refine (HS.out _ (maxis_below HMX.out HB.out)).mono ?_; rintro e w3 ⟨rfl, hb⟩; replace H2 := Aside0.mk (blk_below H2.out hb); replace HB := Aside0.mk (below_step HB.out hb); clear hb)
    | (go_at_call 13; refine (ref04_Of4 n _).mono ?_; rintro e w4 ⟨rfl, hb⟩; replace H2 := Aside0.mk (blk_below H2.out hb); replace HB := Aside0.mk (below_step HB.out hb); clear hb)
    | ((with_reducible refine gate_store (t := 30) (p := 2) rfl ?_); refine wpList_store_row rfl 30 (.tmp 2) (.tmp 15) rfl k2 (eA (of4 n)) rfl rfl 30 (eA noA) H2.out (infoE HO.out) ((eA_size ok_noA).trans (eA_size HO.out).symm) (eA_one _) ?_; replace H2 := Aside0.mk (row_new (cells := eA (of4 n)) H2.out); replace HB := Aside0.mk (below_row HB.out HG2.out (eA (of4 n))); generalize w4.setRow k2 (eA (of4 n)) = w5 at HB H2 ⊢))
  refine bodyPost_ret (results_cell_tmp rfl _ _ k2 30 (eA (of4 n)) (0, 0) _ rfl H2.out Tryz.underlying30 rfl (infoE HO.out)) rfl ?_
  exact ⟨rfl, HB.out⟩
set_option maxHeartbeats 4000000 in
set_option maxRecDepth 100000 in
theorem ref04_Parse6 (s : ByteArray) (g0 g1 g2 g3 g4 g5 g6 g7 : Int) (hr : ∀ x ∈ ([g0, g1, g2, g3, g4, g5, g6, g7] : List Int), 0 ≤ x ∧ x ≤ 65535) (hs : ∀ w : World, Calls Tryz.prog 70 #[.string s] w fun e w' => e = .returned (.tuple #[.int .u32 0, .bool false]) ∧ Below w.heap.size w w')
    (h6 : ∀ w : World, MaxIs w → Calls Tryz.prog 71 #[.string s] w fun e w' => e = .returned (.tuple #[.agg (e8 [g0, g1, g2, g3, g4, g5, g6, g7]), .bool true]) ∧ Below w.heap.size w w') : AdOkR s (of6 [g0, g1, g2, g3, g4, g5, g6, g7]) := fun w hmx => by
  have HB := Aside0.mk (Below.refl w.heap.size w)
  have HMX := Aside0.mk hmx
  have HS := Aside0.mk hs
  have H6 := Aside0.mk h6
  have HR := Aside0.mk hr
  have HO := Aside0.mk (ok_of6 g0 g1 g2 g3 g4 g5 g6 g7)
  clear hmx hs h6 hr
  go_enter Tryz.func41, Tryz.ntmps41
  go_wp2_with (first
    | ((with_reducible refine gate_dst (N := 2) rfl ?_); refine box_event ?hg (N := 2) ?hd (cs := eA noA) (t := 30) ?hr ?_; (case hd => rfl); (case hg => rfl); (case hr => first | (go_simp; done) | (go_simp; rfl)); intro k2 hg w2 hbox hb; have H2 := Aside0.mk hbox; have HG2 := Aside0.mk (show w.heap.size ≤ k2 by rw [hg]; exact HB.out.size); skip; replace HB := Aside0.mk (below_step HB.out hb); clear hb hg hbox)
    | (go_at_call 70; refine (HS.out _).mono ?_; rintro e w3 ⟨rfl, hb⟩; replace H2 := Aside0.mk (blk_below H2.out hb); replace HB := Aside0.mk (below_step HB.out hb); clear hb)
    | (go_at_call 71; refine (H6.out _ (maxis_below HMX.out HB.out)).mono ?_; rintro e w4 ⟨rfl, hb⟩; replace H2 := Aside0.mk (blk_below H2.out hb); replace HB := Aside0.mk (below_step HB.out hb); clear hb)
    | ((with_reducible refine gate_dst (N := 6) rfl ?_); refine box_event ?hg (N := 6) ?hd (cs := e8 zr8) (t := 76) ?hr ?_; (case hd => rfl); (case hg => rfl); (case hr => first | (go_simp; done) | (go_simp; rfl)); intro k6 hg w5 hbox hb; have HX := Aside0.mk hbox; have HG6 := Aside0.mk (show w.heap.size ≤ k6 by rw [hg]; exact HB.out.size); have HN26 := Aside0.mk (show k2 ≠ k6 by have := (Array.getElem?_eq_some_iff.1 H2.out).1; omega); replace H2 := Aside0.mk (blk_below H2.out hb); replace HB := Aside0.mk (below_step HB.out hb); clear hb hg hbox)
    | ((with_reducible refine gate_store (t := 76) (p := 6) rfl ?_); refine wpList_store_row rfl 76 (.tmp 6) (.tmp 19) rfl k6 (e8 [g0, g1, g2, g3, g4, g5, g6, g7]) rfl rfl 76 (e8 zr8) HX.out (inf8 rfl) (rfl) (e8_one _) ?_; replace H2 := Aside0.mk ((row_far (cells := e8 [g0, g1, g2, g3, g4, g5, g6, g7]) HN26.out).trans H2.out); replace HX := Aside0.mk (row_new (cells := e8 [g0, g1, g2, g3, g4, g5, g6, g7]) HX.out); replace HB := Aside0.mk (below_row HB.out HG6.out (e8 [g0, g1, g2, g3, g4, g5, g6, g7])); generalize w5.setRow k6 (e8 [g0, g1, g2, g3, g4, g5, g6, g7]) = w6 at HB HX H2 ⊢)
    | ((with_reducible refine gate_dst (N := 22) rfl ?_); refine wpList_load_row rfl 76 (.tmp 6) rfl k6 rfl 76 (e8 [g0, g1, g2, g3, g4, g5, g6, g7]) (0, 0) _ HX.out Tryz.underlying76 rfl (inf8 rfl) ?_)
    | (go_at_call 72; refine (ref04_Of6 g0 g1 g2 g3 g4 g5 g6 g7 HR.out _).mono ?_; rintro e w7 ⟨rfl, hb⟩; replace H2 := Aside0.mk (blk_below H2.out hb); replace HB := Aside0.mk (below_step HB.out hb); clear hb)
    | ((with_reducible refine gate_store (t := 30) (p := 2) rfl ?_); refine wpList_store_row rfl 30 (.tmp 2) (.tmp 23) rfl k2 (eA (of6 [g0, g1, g2, g3, g4, g5, g6, g7])) rfl rfl 30 (eA noA) H2.out (infoE HO.out) ((eA_size ok_noA).trans (eA_size HO.out).symm) (eA_one _) ?_; replace H2 := Aside0.mk (row_new (cells := eA (of6 [g0, g1, g2, g3, g4, g5, g6, g7])) H2.out); replace HB := Aside0.mk (below_row HB.out HG2.out (eA (of6 [g0, g1, g2, g3, g4, g5, g6, g7]))); generalize w7.setRow k2 (eA (of6 [g0, g1, g2, g3, g4, g5, g6, g7])) = w8 at HB H2 ⊢))
  refine bodyPost_ret (results_cell_tmp rfl _ _ k2 30 (eA (of6 [g0, g1, g2, g3, g4, g5, g6, g7])) (0, 0) _ rfl H2.out Tryz.underlying30 rfl (infoE HO.out)) rfl ?_
  exact ⟨rfl, HB.out⟩
/-- Where the last slash stands, ahead of a place. -/
def lastB (s : ByteArray) : Nat → Int
  | 0 => -1
  | i + 1 => if bt s (i : Int) = 47 then (i : Int) else lastB s i
theorem i64_up (i : Nat) (h : i ≤ 1000) : IntKind.i64.wrap ((i : Int) + 1) = ((i + 1 : Nat) : Int) := by rw [IntKind.wrap_i64]; omega
set_option maxHeartbeats 4000000 in
set_option maxRecDepth 100000 in
theorem ref05_Parse (s h d : ByteArray) (at_ : Nat) (a : Ad) (n : Int) (k : Nat) (hat : lastB s s.size = (at_ : Int)) (hsz : s.size ≤ 1000) (hlt : at_ + 1 ≤ s.size) (hh : s.extract 0 at_ = h) (hd : s.extract (at_ + 1) s.size = d) (ha : AdOkR h a) (hn : r01_Number.f k d 10 = some (n, true)) (hd1 : d.size = 1 ∨ (1 < d.size ∧ bt d 0 ≠ 48)) (hok : a.ok) (hm : mayQ ⟨a, n⟩ = true) (w : World) (hmx : MaxIs w) :
    Calls Tryz.prog 22 #[.string s] w fun e w' => e = .returned (.tuple #[.agg (eP ⟨a, n⟩), .int .i64 0]) ∧ Below w.heap.size w w' := by
  have HB := Aside0.mk (Below.refl w.heap.size w)
  have HMX := Aside0.mk hmx
  have HAT := Aside0.mk hat
  have HA := Aside0.mk ha
  have HN := Aside0.mk (number_below k d n true hn)
  have HO := Aside0.mk hok
  have HSZ := Aside0.mk hsz
  have HLT := Aside0.mk hlt
  have HD1 := Aside0.mk hd1
  have HH := Aside0.mk hh
  have HD := Aside0.mk hd
  have HMY := Aside0.mk (show ∀ w, Calls Tryz.prog 43 #[.agg (eP ⟨a, n⟩)] w fun e w' => e = .returned (.bool true) ∧ Below w.heap.size w w' by rw [← hm, may_same hok]; exact fun w => ref05_May ⟨a, n⟩ hok w)
  clear hmx hat ha hn hok hm hsz hlt hd1 hh hd
  go_enter Tryz.func22, Tryz.ntmps22
  go_wp2_with (first
    | ((with_reducible refine gate_dst (N := 2) rfl ?_); refine box_event ?hg (N := 2) ?hd (cs := eP noP) (t := 42) ?hr ?_; (case hd => rfl); (case hg => rfl); (case hr => first | (go_simp; done) | (go_simp; rfl)); intro k2 hg w2 hbox hb; have H2 := Aside0.mk hbox; have HG2 := Aside0.mk (show w.heap.size ≤ k2 by rw [hg]; exact HB.out.size); replace HB := Aside0.mk (below_step HB.out hb); clear hb hg hbox))
  go_loopw [4, 5] (fun v4 v5 wr => ∃ (i : Nat) (z : Int), v4 = .int .i64 (lastB s i) ∧ v5 = .int .i64 z ∧ Aside0 (z = (i : Int)) ∧ Aside0 (i ≤ s.size) ∧ Aside0 (wr = w2)) (fun _ v5 _ => s.size - (intOf v5).toNat)
  case atStart => exact ⟨0, 0, rfl, rfl, ⟨rfl⟩, ⟨Nat.zero_le _⟩, ⟨rfl⟩⟩
  case round =>
    obtain ⟨i, z, rfl, rfl, HZ, HI, HW⟩ := hrel
    have hz0 := HZ.out
    obtain rfl := HW.out
    by_cases hi : i < s.size
    · have e0 : decide (z < (s.size : Int)) = true := decide_eq_true (by omega)
      have p0 : (0 ≤ z) = True := eq_true (by omega)
      have q0 : (z < (s.size : Int)) = True := eq_true (by omega)
      have hx0 := bt_at s z
      have hw : IntKind.i64.wrap (z + 1) = ((i + 1 : Nat) : Int) := by rw [hz0]; exact i64_up i (by have := HSZ.out; omega)
      by_cases hc : bt s z = 47
      · have c0 : (bt s z == 47) = true := beq_iff_eq.mpr hc
        have HL := Aside0.mk (show lastB s (i + 1) = z by show (if _ then _ else _) = _; rw [← hz0, if_pos hc])
        clear hz0
        clear hc
        go_wp2
        go_roundw
        case rel => exact ⟨i + 1, ((i + 1 : Nat) : Int), by rw [HL.out], by first | rfl | exact congrArg (Value.int .i64) hw, ⟨rfl⟩, ⟨by omega⟩, ⟨by first | rfl | trivial⟩⟩
        case measure => have hz := HZ.out; subst hz; exact measure_up s.size i _ (by first | rfl | exact hw | omega) (by omega)
      · have c0 : (bt s z == 47) = false := beq_false_of_ne hc
        have HL := Aside0.mk (show lastB s (i + 1) = lastB s i by show (if _ then _ else _) = _; rw [← hz0, if_neg hc])
        clear hz0
        clear hc
        go_wp2
        go_roundw
        case rel => exact ⟨i + 1, ((i + 1 : Nat) : Int), by rw [HL.out], by first | rfl | exact congrArg (Value.int .i64) hw, ⟨rfl⟩, ⟨by omega⟩, ⟨by first | rfl | trivial⟩⟩
        case measure => have hz := HZ.out; subst hz; exact measure_up s.size i _ (by first | rfl | exact hw | omega) (by omega)
    · have hin : i = s.size := by have := HI.out; omega
      subst hin
      subst hz0
      have e0 : decide ((s.size : Int) < (s.size : Int)) = false := decide_eq_false (by omega)
      rw [HAT.out]
      have hh := HH.out
      have hd := HD.out
      have hsz := HSZ.out
      have hlt := HLT.out
      have i0 : (0 : Int) ≤ (at_ : Int) := Int.natCast_nonneg _
      have i1 : decide ((at_ : Int) < 0) = false := decide_eq_false (by omega)
      have i2 : (at_ : Int) ≤ (s.size : Int) := by omega
      have i3 : wrap64 ((at_ : Int) + 1) = ((at_ + 1 : Nat) : Int) := by unfold wrap64; omega
      have i4 : ((at_ + 1 : Nat) : Int) ≤ (s.size : Int) := by omega
      have i5 : IntKind.i64.wrap ((at_ : Int) + 1) = (at_ : Int) + 1 := by rw [IntKind.wrap_i64]; omega
      have i6 : 0 ≤ (at_ : Int) + 1 ∧ (at_ : Int) + 1 ≤ (s.size : Int) := by omega
      clear hi
      rcases HD1.out with hone | ⟨hone, hz⟩
      · have o0 : decide ((1 : Int) < (d.size : Int)) = false := decide_eq_false (by omega)
        have o0n : decide (1 < d.size) = false := decide_eq_false (by omega)
        clear hone
        go_wp2_with (first
          | (go_at_call 41; (try rw [hh]); refine (HA.out _ (maxis_below HMX.out HB.out)).mono ?_; rintro e w4 ⟨rfl, hb⟩; replace H2 := Aside0.mk (blk_below H2.out hb); replace HB := Aside0.mk (below_step HB.out hb); clear hb)
          | ((with_reducible refine gate_dst (N := 6) rfl ?_); refine box_event ?hg (N := 6) ?hd (cs := eA noA) (t := 30) ?hr ?_; (case hd => rfl); (case hg => rfl); (case hr => first | (go_simp; done) | (go_simp; rfl)); intro k6 hg w5 hbox hb; have H6 := Aside0.mk hbox; have HG6 := Aside0.mk (show w.heap.size ≤ k6 by rw [hg]; exact HB.out.size); have HN26 := Aside0.mk (show k2 ≠ k6 by have := (Array.getElem?_eq_some_iff.1 H2.out).1; omega); replace H2 := Aside0.mk (blk_below H2.out hb); replace HB := Aside0.mk (below_step HB.out hb); clear hb hg hbox)
          | ((with_reducible refine gate_store (t := 30) (p := 6) rfl ?_); refine wpList_store_row rfl 30 (.tmp 6) (.tmp 32) rfl k6 (eA a) rfl rfl 30 (eA noA) H6.out (infoE HO.out) ((eA_size ok_noA).trans (eA_size HO.out).symm) (eA_one _) ?_; replace H2 := Aside0.mk ((row_far (cells := eA a) HN26.out).trans H2.out); replace H6 := Aside0.mk (row_new (cells := eA a) H6.out); replace HB := Aside0.mk (below_row HB.out HG6.out (eA a)); generalize w5.setRow k6 (eA a) = w6 at HB H6 H2 ⊢)
          | (go_at_call 42; refine (HN.out _).mono ?_; rintro e w7 ⟨rfl, hb⟩; replace H6 := Aside0.mk (blk_below H6.out hb); replace H2 := Aside0.mk (blk_below H2.out hb); replace HB := Aside0.mk (below_step HB.out hb); clear hb)
          | ((with_reducible refine gate_dst (N := 60) rfl ?_); refine wpList_load_row rfl 30 (.tmp 6) rfl k6 rfl 30 (eA a) (0, 0) _ H6.out Tryz.underlying30 rfl (infoE HO.out) ?_)
          | ((with_reducible refine gate_dst (N := 62) rfl ?_); refine wpList_buildTo rfl 42 _ rfl _ rfl (eP ⟨a, n⟩) ?hbb ?_; (case hbb => rw [List.map_toArray]; exact built_pf HO.out n))
          | ((with_reducible refine gate_dst (N := 11) rfl ?_); refine box_event ?hg (N := 11) ?hd (cs := eP noP) (t := 42) ?hr ?_; (case hd => rfl); (case hg => rfl); (case hr => first | (go_simp; done) | (go_simp; rfl)); intro k11 hg w8 hbox hb; have H11 := Aside0.mk hbox; have HG11 := Aside0.mk (show w.heap.size ≤ k11 by rw [hg]; exact HB.out.size); have HN211 := Aside0.mk (show k2 ≠ k11 by have := (Array.getElem?_eq_some_iff.1 H2.out).1; omega); replace H2 := Aside0.mk (blk_below H2.out hb); replace HB := Aside0.mk (below_step HB.out hb); clear hb hg hbox)
          | ((with_reducible refine gate_store (t := 42) (p := 11) rfl ?_); refine wpList_store_row rfl 42 (.tmp 11) (.tmp 62) rfl k11 (eP ⟨a, n⟩) rfl rfl 42 (eP noP) H11.out (infoEP (p := ⟨a, n⟩) HO.out) ((show (eP noP).size = 18 from rfl).trans (eP_size (p := ⟨a, n⟩) HO.out).symm) (eP_one _) ?_; replace H2 := Aside0.mk ((row_far (cells := eP ⟨a, n⟩) HN211.out).trans H2.out); replace H11 := Aside0.mk (row_new (cells := eP ⟨a, n⟩) H11.out); replace HB := Aside0.mk (below_row HB.out HG11.out (eP ⟨a, n⟩)); generalize w8.setRow k11 (eP ⟨a, n⟩) = w9 at HB H11 H2 ⊢)
          | ((with_reducible refine gate_dst (N := 63) rfl ?_); refine wpList_load_row rfl 42 (.tmp 11) rfl k11 rfl 42 (eP ⟨a, n⟩) (0, 0) _ H11.out Tryz.underlying42 rfl (infoEP (p := ⟨a, n⟩) HO.out) ?_)
          | (go_at_call 43; refine (HMY.out _).mono ?_; rintro e w10 ⟨rfl, hb⟩; replace H11 := Aside0.mk (blk_below H11.out hb); replace H2 := Aside0.mk (blk_below H2.out hb); replace HB := Aside0.mk (below_step HB.out hb); clear hb)
          | ((with_reducible refine gate_dst (N := 68) rfl ?_); refine wpList_load_row rfl 42 (.tmp 11) rfl k11 rfl 42 (eP ⟨a, n⟩) (0, 0) _ H11.out Tryz.underlying42 rfl (infoEP (p := ⟨a, n⟩) HO.out) ?_)
          | ((with_reducible refine gate_store (t := 42) (p := 2) rfl ?_); refine wpList_store_row rfl 42 (.tmp 2) (.tmp 68) rfl k2 (eP ⟨a, n⟩) rfl rfl 42 (eP noP) H2.out (infoEP (p := ⟨a, n⟩) HO.out) ((show (eP noP).size = 18 from rfl).trans (eP_size (p := ⟨a, n⟩) HO.out).symm) (eP_one _) ?_; replace H2 := Aside0.mk (row_new (cells := eP ⟨a, n⟩) H2.out); replace HB := Aside0.mk (below_row HB.out HG2.out (eP ⟨a, n⟩)); generalize w10.setRow k2 (eP ⟨a, n⟩) = w11 at HB H2 ⊢))
        refine bodyPost_ret (results_cell_tmp rfl _ _ k2 42 (eP ⟨a, n⟩) (0, 0) _ rfl H2.out Tryz.underlying42 rfl (infoEP (p := ⟨a, n⟩) HO.out)) rfl ?_
        exact ⟨rfl, HB.out⟩
      · have o0 : decide ((1 : Int) < (d.size : Int)) = true := decide_eq_true (by omega)
        have o0n : decide (1 < d.size) = true := decide_eq_true hone
        have q1 : decide ((0 : Int) < (d.size : Int)) = true := decide_eq_true (by omega)
        have q1n : decide (0 < d.size) = true := decide_eq_true (by omega)
        have q3 : ((0 : Int) < (d.size : Int)) = True := eq_true (by omega)
        have q4 : (0 < d.size) = True := eq_true (by omega)
        have hx1 : ∀ h : 0 < d.size, ((d[0]'h).toNat : Int) = bt d 0 := fun h => bt_at d 0 h
        have c1 : (bt d 0 == 48) = false := beq_eq_false_iff_ne.mpr hz
        have c1b : (bt d 0 != 48) = true := bne_iff_ne.mpr hz
        clear hone hz
        go_wp2_with (first
          | (go_at_call 41; (try rw [hh]); refine (HA.out _ (maxis_below HMX.out HB.out)).mono ?_; rintro e w4 ⟨rfl, hb⟩; replace H2 := Aside0.mk (blk_below H2.out hb); replace HB := Aside0.mk (below_step HB.out hb); clear hb)
          | ((with_reducible refine gate_dst (N := 6) rfl ?_); refine box_event ?hg (N := 6) ?hd (cs := eA noA) (t := 30) ?hr ?_; (case hd => rfl); (case hg => rfl); (case hr => first | (go_simp; done) | (go_simp; rfl)); intro k6 hg w5 hbox hb; have H6 := Aside0.mk hbox; have HG6 := Aside0.mk (show w.heap.size ≤ k6 by rw [hg]; exact HB.out.size); have HN26 := Aside0.mk (show k2 ≠ k6 by have := (Array.getElem?_eq_some_iff.1 H2.out).1; omega); replace H2 := Aside0.mk (blk_below H2.out hb); replace HB := Aside0.mk (below_step HB.out hb); clear hb hg hbox)
          | ((with_reducible refine gate_store (t := 30) (p := 6) rfl ?_); refine wpList_store_row rfl 30 (.tmp 6) (.tmp 32) rfl k6 (eA a) rfl rfl 30 (eA noA) H6.out (infoE HO.out) ((eA_size ok_noA).trans (eA_size HO.out).symm) (eA_one _) ?_; replace H2 := Aside0.mk ((row_far (cells := eA a) HN26.out).trans H2.out); replace H6 := Aside0.mk (row_new (cells := eA a) H6.out); replace HB := Aside0.mk (below_row HB.out HG6.out (eA a)); generalize w5.setRow k6 (eA a) = w6 at HB H6 H2 ⊢)
          | (go_at_call 42; refine (HN.out _).mono ?_; rintro e w7 ⟨rfl, hb⟩; replace H6 := Aside0.mk (blk_below H6.out hb); replace H2 := Aside0.mk (blk_below H2.out hb); replace HB := Aside0.mk (below_step HB.out hb); clear hb)
          | ((with_reducible refine gate_dst (N := 60) rfl ?_); refine wpList_load_row rfl 30 (.tmp 6) rfl k6 rfl 30 (eA a) (0, 0) _ H6.out Tryz.underlying30 rfl (infoE HO.out) ?_)
          | ((with_reducible refine gate_dst (N := 62) rfl ?_); refine wpList_buildTo rfl 42 _ rfl _ rfl (eP ⟨a, n⟩) ?hbb ?_; (case hbb => rw [List.map_toArray]; exact built_pf HO.out n))
          | ((with_reducible refine gate_dst (N := 11) rfl ?_); refine box_event ?hg (N := 11) ?hd (cs := eP noP) (t := 42) ?hr ?_; (case hd => rfl); (case hg => rfl); (case hr => first | (go_simp; done) | (go_simp; rfl)); intro k11 hg w8 hbox hb; have H11 := Aside0.mk hbox; have HG11 := Aside0.mk (show w.heap.size ≤ k11 by rw [hg]; exact HB.out.size); have HN211 := Aside0.mk (show k2 ≠ k11 by have := (Array.getElem?_eq_some_iff.1 H2.out).1; omega); replace H2 := Aside0.mk (blk_below H2.out hb); replace HB := Aside0.mk (below_step HB.out hb); clear hb hg hbox)
          | ((with_reducible refine gate_store (t := 42) (p := 11) rfl ?_); refine wpList_store_row rfl 42 (.tmp 11) (.tmp 62) rfl k11 (eP ⟨a, n⟩) rfl rfl 42 (eP noP) H11.out (infoEP (p := ⟨a, n⟩) HO.out) ((show (eP noP).size = 18 from rfl).trans (eP_size (p := ⟨a, n⟩) HO.out).symm) (eP_one _) ?_; replace H2 := Aside0.mk ((row_far (cells := eP ⟨a, n⟩) HN211.out).trans H2.out); replace H11 := Aside0.mk (row_new (cells := eP ⟨a, n⟩) H11.out); replace HB := Aside0.mk (below_row HB.out HG11.out (eP ⟨a, n⟩)); generalize w8.setRow k11 (eP ⟨a, n⟩) = w9 at HB H11 H2 ⊢)
          | ((with_reducible refine gate_dst (N := 63) rfl ?_); refine wpList_load_row rfl 42 (.tmp 11) rfl k11 rfl 42 (eP ⟨a, n⟩) (0, 0) _ H11.out Tryz.underlying42 rfl (infoEP (p := ⟨a, n⟩) HO.out) ?_)
          | (go_at_call 43; refine (HMY.out _).mono ?_; rintro e w10 ⟨rfl, hb⟩; replace H11 := Aside0.mk (blk_below H11.out hb); replace H2 := Aside0.mk (blk_below H2.out hb); replace HB := Aside0.mk (below_step HB.out hb); clear hb)
          | ((with_reducible refine gate_dst (N := 68) rfl ?_); refine wpList_load_row rfl 42 (.tmp 11) rfl k11 rfl 42 (eP ⟨a, n⟩) (0, 0) _ H11.out Tryz.underlying42 rfl (infoEP (p := ⟨a, n⟩) HO.out) ?_)
          | ((with_reducible refine gate_store (t := 42) (p := 2) rfl ?_); refine wpList_store_row rfl 42 (.tmp 2) (.tmp 68) rfl k2 (eP ⟨a, n⟩) rfl rfl 42 (eP noP) H2.out (infoEP (p := ⟨a, n⟩) HO.out) ((show (eP noP).size = 18 from rfl).trans (eP_size (p := ⟨a, n⟩) HO.out).symm) (eP_one _) ?_; replace H2 := Aside0.mk (row_new (cells := eP ⟨a, n⟩) H2.out); replace HB := Aside0.mk (below_row HB.out HG2.out (eP ⟨a, n⟩)); generalize w10.setRow k2 (eP ⟨a, n⟩) = w11 at HB H2 ⊢))
        refine bodyPost_ret (results_cell_tmp rfl _ _ k2 42 (eP ⟨a, n⟩) (0, 0) _ rfl H2.out Tryz.underlying42 rfl (infoEP (p := ⟨a, n⟩) HO.out)) rfl ?_
        exact ⟨rfl, HB.out⟩
/-- What abatisref05.Parse hands back at a text: this prefix. -/
structure PfOkR (s : ByteArray) (p : Pf) : Prop where
  ok : p.a.ok
  may : mayQ p = true
  run : ∀ w : World, MaxIs w → Calls Tryz.prog 22 #[.string s] w fun e w' => e = .returned (.tuple #[.agg (eP p), .int .i64 0]) ∧ Below w.heap.size w w'
theorem adOkR0 : AdOkR ⟨#[49, 50, 55, 46, 48, 46, 48, 46, 48]⟩ (of4 2130706432) := ref04_Parse4 ⟨#[49, 50, 55, 46, 48, 46, 48, 46, 48]⟩ 2130706432 (by decide) (by decide) (fun w hm => r02_Strict.calls 60 ⟨#[49, 50, 55, 46, 48, 46, 48, 46, 48]⟩ 2130706432 true w (by decide +kernel))
theorem pfOkR0 : PfOkR ⟨#[49, 50, 55, 46, 48, 46, 48, 46, 48, 47, 56]⟩ ⟨of4 2130706432, 8⟩ :=
  have hm : mayQ ⟨of4 2130706432, 8⟩ = true := by decide +kernel
  ⟨ok_of4 2130706432, hm, fun w hx => ref05_Parse ⟨#[49, 50, 55, 46, 48, 46, 48, 46, 48, 47, 56]⟩ ⟨#[49, 50, 55, 46, 48, 46, 48, 46, 48]⟩ ⟨#[56]⟩ 9 (of4 2130706432) 8 60 (by decide +kernel) (by decide) (by decide) (by decide +kernel) (by decide +kernel) adOkR0 (by decide +kernel) (by decide +kernel) (ok_of4 2130706432) hm w hx⟩
theorem adOkR1 : AdOkR ⟨#[58, 58, 49]⟩ (of6 [0, 0, 0, 0, 0, 0, 0, 1]) := ref04_Parse6 ⟨#[58, 58, 49]⟩ 0 0 0 0 0 0 0 1 (by decide) (fun w => r02_Strict.calls 60 ⟨#[58, 58, 49]⟩ 0 false w (by decide +kernel)) (fun w hm => r03_Parse.calls 60 ⟨#[58, 58, 49]⟩ 0 0 0 0 0 0 0 1 true w (by kernel_rfl))
theorem pfOkR1 : PfOkR ⟨#[58, 58, 49, 47, 49, 50, 56]⟩ ⟨of6 [0, 0, 0, 0, 0, 0, 0, 1], 128⟩ :=
  have hm : mayQ ⟨of6 [0, 0, 0, 0, 0, 0, 0, 1], 128⟩ = true := by decide +kernel
  ⟨ok_of6 0 0 0 0 0 0 0 1, hm, fun w hx => ref05_Parse ⟨#[58, 58, 49, 47, 49, 50, 56]⟩ ⟨#[58, 58, 49]⟩ ⟨#[49, 50, 56]⟩ 3 (of6 [0, 0, 0, 0, 0, 0, 0, 1]) 128 60 (by decide +kernel) (by decide) (by decide) (by decide +kernel) (by decide +kernel) adOkR1 (by decide +kernel) (by decide +kernel) (ok_of6 0 0 0 0 0 0 0 1) hm w hx⟩
theorem adOkR2 : AdOkR ⟨#[48, 46, 48, 46, 48, 46, 48]⟩ (of4 0) := ref04_Parse4 ⟨#[48, 46, 48, 46, 48, 46, 48]⟩ 0 (by decide) (by decide) (fun w hm => r02_Strict.calls 60 ⟨#[48, 46, 48, 46, 48, 46, 48]⟩ 0 true w (by decide +kernel))
theorem pfOkR2 : PfOkR ⟨#[48, 46, 48, 46, 48, 46, 48, 47, 51, 50]⟩ ⟨of4 0, 32⟩ :=
  have hm : mayQ ⟨of4 0, 32⟩ = true := by decide +kernel
  ⟨ok_of4 0, hm, fun w hx => ref05_Parse ⟨#[48, 46, 48, 46, 48, 46, 48, 47, 51, 50]⟩ ⟨#[48, 46, 48, 46, 48, 46, 48]⟩ ⟨#[51, 50]⟩ 7 (of4 0) 32 60 (by decide +kernel) (by decide) (by decide) (by decide +kernel) (by decide +kernel) adOkR2 (by decide +kernel) (by decide +kernel) (ok_of4 0) hm w hx⟩
theorem adOkR3 : AdOkR ⟨#[58, 58]⟩ (of6 [0, 0, 0, 0, 0, 0, 0, 0]) := ref04_Parse6 ⟨#[58, 58]⟩ 0 0 0 0 0 0 0 0 (by decide) (fun w => r02_Strict.calls 60 ⟨#[58, 58]⟩ 0 false w (by decide +kernel)) (fun w hm => r03_Parse.calls 60 ⟨#[58, 58]⟩ 0 0 0 0 0 0 0 0 true w (by kernel_rfl))
theorem pfOkR3 : PfOkR ⟨#[58, 58, 47, 49, 50, 56]⟩ ⟨of6 [0, 0, 0, 0, 0, 0, 0, 0], 128⟩ :=
  have hm : mayQ ⟨of6 [0, 0, 0, 0, 0, 0, 0, 0], 128⟩ = true := by decide +kernel
  ⟨ok_of6 0 0 0 0 0 0 0 0, hm, fun w hx => ref05_Parse ⟨#[58, 58, 47, 49, 50, 56]⟩ ⟨#[58, 58]⟩ ⟨#[49, 50, 56]⟩ 2 (of6 [0, 0, 0, 0, 0, 0, 0, 0]) 128 60 (by decide +kernel) (by decide) (by decide) (by decide +kernel) (by decide +kernel) adOkR3 (by decide +kernel) (by decide +kernel) (ok_of6 0 0 0 0 0 0 0 0) hm w hx⟩
theorem adOkR4 : AdOkR ⟨#[49, 48, 46, 48, 46, 48, 46, 48]⟩ (of4 167772160) := ref04_Parse4 ⟨#[49, 48, 46, 48, 46, 48, 46, 48]⟩ 167772160 (by decide) (by decide) (fun w hm => r02_Strict.calls 60 ⟨#[49, 48, 46, 48, 46, 48, 46, 48]⟩ 167772160 true w (by decide +kernel))
theorem pfOkR4 : PfOkR ⟨#[49, 48, 46, 48, 46, 48, 46, 48, 47, 56]⟩ ⟨of4 167772160, 8⟩ :=
  have hm : mayQ ⟨of4 167772160, 8⟩ = true := by decide +kernel
  ⟨ok_of4 167772160, hm, fun w hx => ref05_Parse ⟨#[49, 48, 46, 48, 46, 48, 46, 48, 47, 56]⟩ ⟨#[49, 48, 46, 48, 46, 48, 46, 48]⟩ ⟨#[56]⟩ 8 (of4 167772160) 8 60 (by decide +kernel) (by decide) (by decide) (by decide +kernel) (by decide +kernel) adOkR4 (by decide +kernel) (by decide +kernel) (ok_of4 167772160) hm w hx⟩
theorem adOkR5 : AdOkR ⟨#[49, 48, 48, 46, 54, 52, 46, 48, 46, 48]⟩ (of4 1681915904) := ref04_Parse4 ⟨#[49, 48, 48, 46, 54, 52, 46, 48, 46, 48]⟩ 1681915904 (by decide) (by decide) (fun w hm => r02_Strict.calls 60 ⟨#[49, 48, 48, 46, 54, 52, 46, 48, 46, 48]⟩ 1681915904 true w (by decide +kernel))
theorem pfOkR5 : PfOkR ⟨#[49, 48, 48, 46, 54, 52, 46, 48, 46, 48, 47, 49, 48]⟩ ⟨of4 1681915904, 10⟩ :=
  have hm : mayQ ⟨of4 1681915904, 10⟩ = true := by decide +kernel
  ⟨ok_of4 1681915904, hm, fun w hx => ref05_Parse ⟨#[49, 48, 48, 46, 54, 52, 46, 48, 46, 48, 47, 49, 48]⟩ ⟨#[49, 48, 48, 46, 54, 52, 46, 48, 46, 48]⟩ ⟨#[49, 48]⟩ 10 (of4 1681915904) 10 60 (by decide +kernel) (by decide) (by decide) (by decide +kernel) (by decide +kernel) adOkR5 (by decide +kernel) (by decide +kernel) (ok_of4 1681915904) hm w hx⟩
theorem adOkR6 : AdOkR ⟨#[49, 54, 57, 46, 50, 53, 52, 46, 48, 46, 48]⟩ (of4 2851995648) := ref04_Parse4 ⟨#[49, 54, 57, 46, 50, 53, 52, 46, 48, 46, 48]⟩ 2851995648 (by decide) (by decide) (fun w hm => r02_Strict.calls 60 ⟨#[49, 54, 57, 46, 50, 53, 52, 46, 48, 46, 48]⟩ 2851995648 true w (by decide +kernel))
theorem pfOkR6 : PfOkR ⟨#[49, 54, 57, 46, 50, 53, 52, 46, 48, 46, 48, 47, 49, 54]⟩ ⟨of4 2851995648, 16⟩ :=
  have hm : mayQ ⟨of4 2851995648, 16⟩ = true := by decide +kernel
  ⟨ok_of4 2851995648, hm, fun w hx => ref05_Parse ⟨#[49, 54, 57, 46, 50, 53, 52, 46, 48, 46, 48, 47, 49, 54]⟩ ⟨#[49, 54, 57, 46, 50, 53, 52, 46, 48, 46, 48]⟩ ⟨#[49, 54]⟩ 11 (of4 2851995648) 16 60 (by decide +kernel) (by decide) (by decide) (by decide +kernel) (by decide +kernel) adOkR6 (by decide +kernel) (by decide +kernel) (ok_of4 2851995648) hm w hx⟩
theorem adOkR7 : AdOkR ⟨#[49, 55, 50, 46, 49, 54, 46, 48, 46, 48]⟩ (of4 2886729728) := ref04_Parse4 ⟨#[49, 55, 50, 46, 49, 54, 46, 48, 46, 48]⟩ 2886729728 (by decide) (by decide) (fun w hm => r02_Strict.calls 60 ⟨#[49, 55, 50, 46, 49, 54, 46, 48, 46, 48]⟩ 2886729728 true w (by decide +kernel))
theorem pfOkR7 : PfOkR ⟨#[49, 55, 50, 46, 49, 54, 46, 48, 46, 48, 47, 49, 50]⟩ ⟨of4 2886729728, 12⟩ :=
  have hm : mayQ ⟨of4 2886729728, 12⟩ = true := by decide +kernel
  ⟨ok_of4 2886729728, hm, fun w hx => ref05_Parse ⟨#[49, 55, 50, 46, 49, 54, 46, 48, 46, 48, 47, 49, 50]⟩ ⟨#[49, 55, 50, 46, 49, 54, 46, 48, 46, 48]⟩ ⟨#[49, 50]⟩ 10 (of4 2886729728) 12 60 (by decide +kernel) (by decide) (by decide) (by decide +kernel) (by decide +kernel) adOkR7 (by decide +kernel) (by decide +kernel) (ok_of4 2886729728) hm w hx⟩
theorem adOkR8 : AdOkR ⟨#[49, 57, 50, 46, 49, 54, 56, 46, 48, 46, 48]⟩ (of4 3232235520) := ref04_Parse4 ⟨#[49, 57, 50, 46, 49, 54, 56, 46, 48, 46, 48]⟩ 3232235520 (by decide) (by decide) (fun w hm => r02_Strict.calls 60 ⟨#[49, 57, 50, 46, 49, 54, 56, 46, 48, 46, 48]⟩ 3232235520 true w (by decide +kernel))
theorem pfOkR8 : PfOkR ⟨#[49, 57, 50, 46, 49, 54, 56, 46, 48, 46, 48, 47, 49, 54]⟩ ⟨of4 3232235520, 16⟩ :=
  have hm : mayQ ⟨of4 3232235520, 16⟩ = true := by decide +kernel
  ⟨ok_of4 3232235520, hm, fun w hx => ref05_Parse ⟨#[49, 57, 50, 46, 49, 54, 56, 46, 48, 46, 48, 47, 49, 54]⟩ ⟨#[49, 57, 50, 46, 49, 54, 56, 46, 48, 46, 48]⟩ ⟨#[49, 54]⟩ 11 (of4 3232235520) 16 60 (by decide +kernel) (by decide) (by decide) (by decide +kernel) (by decide +kernel) adOkR8 (by decide +kernel) (by decide +kernel) (ok_of4 3232235520) hm w hx⟩
theorem adOkR9 : AdOkR ⟨#[102, 99, 48, 48, 58, 58]⟩ (of6 [64512, 0, 0, 0, 0, 0, 0, 0]) := ref04_Parse6 ⟨#[102, 99, 48, 48, 58, 58]⟩ 64512 0 0 0 0 0 0 0 (by decide) (fun w => r02_Strict.calls 60 ⟨#[102, 99, 48, 48, 58, 58]⟩ 0 false w (by decide +kernel)) (fun w hm => r03_Parse.calls 60 ⟨#[102, 99, 48, 48, 58, 58]⟩ 64512 0 0 0 0 0 0 0 true w (by kernel_rfl))
theorem pfOkR9 : PfOkR ⟨#[102, 99, 48, 48, 58, 58, 47, 55]⟩ ⟨of6 [64512, 0, 0, 0, 0, 0, 0, 0], 7⟩ :=
  have hm : mayQ ⟨of6 [64512, 0, 0, 0, 0, 0, 0, 0], 7⟩ = true := by decide +kernel
  ⟨ok_of6 64512 0 0 0 0 0 0 0, hm, fun w hx => ref05_Parse ⟨#[102, 99, 48, 48, 58, 58, 47, 55]⟩ ⟨#[102, 99, 48, 48, 58, 58]⟩ ⟨#[55]⟩ 6 (of6 [64512, 0, 0, 0, 0, 0, 0, 0]) 7 60 (by decide +kernel) (by decide) (by decide) (by decide +kernel) (by decide +kernel) adOkR9 (by decide +kernel) (by decide +kernel) (ok_of6 64512 0 0 0 0 0 0 0) hm w hx⟩
theorem adOkR10 : AdOkR ⟨#[102, 101, 56, 48, 58, 58]⟩ (of6 [65152, 0, 0, 0, 0, 0, 0, 0]) := ref04_Parse6 ⟨#[102, 101, 56, 48, 58, 58]⟩ 65152 0 0 0 0 0 0 0 (by decide) (fun w => r02_Strict.calls 60 ⟨#[102, 101, 56, 48, 58, 58]⟩ 0 false w (by decide +kernel)) (fun w hm => r03_Parse.calls 60 ⟨#[102, 101, 56, 48, 58, 58]⟩ 65152 0 0 0 0 0 0 0 true w (by kernel_rfl))
theorem pfOkR10 : PfOkR ⟨#[102, 101, 56, 48, 58, 58, 47, 49, 48]⟩ ⟨of6 [65152, 0, 0, 0, 0, 0, 0, 0], 10⟩ :=
  have hm : mayQ ⟨of6 [65152, 0, 0, 0, 0, 0, 0, 0], 10⟩ = true := by decide +kernel
  ⟨ok_of6 65152 0 0 0 0 0 0 0, hm, fun w hx => ref05_Parse ⟨#[102, 101, 56, 48, 58, 58, 47, 49, 48]⟩ ⟨#[102, 101, 56, 48, 58, 58]⟩ ⟨#[49, 48]⟩ 6 (of6 [65152, 0, 0, 0, 0, 0, 0, 0]) 10 60 (by decide +kernel) (by decide) (by decide) (by decide +kernel) (by decide +kernel) adOkR10 (by decide +kernel) (by decide +kernel) (ok_of6 65152 0 0 0 0 0 0 0) hm w hx⟩
theorem dfs_okR : ∀ (i : Nat) x, (dfs0 ++ dfs1)[i]? = some x → PfOkR x.1 x.2 := fun i x hx => by
  match i, hx with
  | 0, hx => cases hx; exact pfOkR0
  | 1, hx => cases hx; exact pfOkR1
  | 2, hx => cases hx; exact pfOkR2
  | 3, hx => cases hx; exact pfOkR3
  | 4, hx => cases hx; exact pfOkR4
  | 5, hx => cases hx; exact pfOkR5
  | 6, hx => cases hx; exact pfOkR6
  | 7, hx => cases hx; exact pfOkR7
  | 8, hx => cases hx; exact pfOkR8
  | 9, hx => cases hx; exact pfOkR9
  | 10, hx => cases hx; exact pfOkR10
end Go.Proofs.YthdognlkacjkhaaGreatDoor.P
