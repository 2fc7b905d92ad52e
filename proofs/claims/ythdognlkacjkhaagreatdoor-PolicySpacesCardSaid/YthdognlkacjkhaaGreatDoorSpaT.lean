/-
  abatisref03.Mapped, abatisref04.Unmap, (*table.Table).Len.
-/
import Derived.Test.YthdognlkacjkhaaGreatDoorSpaS
namespace Go.Proofs.YthdognlkacjkhaaGreatDoor.P
open Go.RowKit Go.Proofs.YthdognlkacjkhaaGreatDoorW.PrintWords Go.Proofs.YthdognlkacjkhaaGreatDoorW.PrintLast Go.Proofs.YthdognlkacjkhaaGreatDoorW.PrintMore
set_option linter.unusedVariables false
set_option linter.unusedSimpArgs false
def mapB (g0 g1 g2 g3 g4 g5 : Int) : Bool := g0 == 0 && g1 == 0 && g2 == 0 && g3 == 0 && g4 == 0 && g5 == 65535
set_option maxHeartbeats 8000000 in
set_option maxRecDepth 100000 in
theorem ref03_Mapped (g0 g1 g2 g3 g4 g5 g6 g7 : Int) (w : World) : Calls Tryz.prog 30 #[.agg (e8 [g0, g1, g2, g3, g4, g5, g6, g7])] w fun e w' => e = .returned (.bool (mapB g0 g1 g2 g3 g4 g5)) ∧ Below w.heap.size w w' := by
  have HB := Aside0.mk (Below.refl w.heap.size w)
  obtain ⟨m, hm⟩ : ∃ m, mapB g0 g1 g2 g3 g4 g5 = m := ⟨_, rfl⟩
  have HM := Aside0.mk hm
  rw [hm]
  clear hm
  go_enter Tryz.func30, Tryz.ntmps30
  go_wp2_with (first
    | ((with_reducible refine gate_dst (N := 1) rfl ?_); refine box_event ?hg (N := 1) ?hd (cs := e8 [g0, g1, g2, g3, g4, g5, g6, g7]) (t := 76) ?hr ?_; (case hd => rfl); (case hg => rfl); (case hr => first | (go_simp; done) | (go_simp; rfl)); intro k1 hg w1 hbox hb; have H1 := Aside0.mk hbox; have HG1 := Aside0.mk (show w.heap.size ≤ k1 by rw [hg]; exact HB.out.size); replace HB := Aside0.mk (below_step HB.out hb); clear hb hg hbox))
  go_loopw [3] (fun v3 wr => ∃ i : Nat, v3 = .int .i64 (i : Int) ∧ Aside0 (i ≤ 5) ∧ Aside0 (1 ≤ i → g0 = 0) ∧ Aside0 (2 ≤ i → g1 = 0) ∧ Aside0 (3 ≤ i → g2 = 0) ∧ Aside0 (4 ≤ i → g3 = 0) ∧ Aside0 (5 ≤ i → g4 = 0) ∧ Aside0 (wr.heap[k1]? = some (.cells (e8 [g0, g1, g2, g3, g4, g5, g6, g7]) 76 (0, 0)) ∧ Below w.heap.size w wr)) (fun v3 _ => 5 - (intOf v3).toNat)
  case atStart => exact ⟨0, rfl, ⟨by omega⟩, ⟨fun h => by omega⟩, ⟨fun h => by omega⟩, ⟨fun h => by omega⟩, ⟨fun h => by omega⟩, ⟨fun h => by omega⟩, ⟨H1.out, HB.out⟩⟩
  case round =>
    obtain ⟨i, rfl, HI, F0, F1, F2, F3, F4, HE⟩ := hrel
    clear H1 HB
    have H1 := Aside0.mk HE.out.1
    have HB := Aside0.mk HE.out.2
    clear HE
    have hi6 : i = 0 ∨ i = 1 ∨ i = 2 ∨ i = 3 ∨ i = 4 ∨ i = 5 := by have := HI.out; omega
    rcases hi6 with rfl | rfl | rfl | rfl | rfl | rfl
    · have c1 : wr.cell? ⟨k1, 0, none⟩ = some (.int .u16 g0) := blk_cell H1.out 0
      by_cases hz : g0 = 0
      · have HZ := Aside0.mk hz
        rw [hz] at c1
        clear hz
        go_wp2
        go_roundw
        case rel => exact ⟨1, rfl, ⟨by decide⟩, ⟨fun _ => HZ.out⟩, ⟨fun h => by omega⟩, ⟨fun h => by omega⟩, ⟨fun h => by omega⟩, ⟨fun h => by omega⟩, ⟨H1.out, HB.out⟩⟩
        case measure => decide
      · have z1 : decide (g0 = 0) = false := decide_eq_false hz
        go_wp2
        go_ret
        obtain rfl : false = m := by
          rw [← HM.out]
          unfold mapB
          simp [hz]
        exact ⟨rfl, HB.out⟩
    · have c1 : wr.cell? ⟨k1, 1, none⟩ = some (.int .u16 g1) := blk_cell H1.out 1
      by_cases hz : g1 = 0
      · have HZ := Aside0.mk hz
        rw [hz] at c1
        clear hz
        go_wp2
        go_roundw
        case rel => exact ⟨2, rfl, ⟨by decide⟩, ⟨fun _ => F0.out (by omega)⟩, ⟨fun _ => HZ.out⟩, ⟨fun h => by omega⟩, ⟨fun h => by omega⟩, ⟨fun h => by omega⟩, ⟨H1.out, HB.out⟩⟩
        case measure => decide
      · have z1 : decide (g1 = 0) = false := decide_eq_false hz
        go_wp2
        go_ret
        obtain rfl : false = m := by
          rw [← HM.out]
          unfold mapB
          simp [hz]
        exact ⟨rfl, HB.out⟩
    · have c1 : wr.cell? ⟨k1, 2, none⟩ = some (.int .u16 g2) := blk_cell H1.out 2
      by_cases hz : g2 = 0
      · have HZ := Aside0.mk hz
        rw [hz] at c1
        clear hz
        go_wp2
        go_roundw
        case rel => exact ⟨3, rfl, ⟨by decide⟩, ⟨fun _ => F0.out (by omega)⟩, ⟨fun _ => F1.out (by omega)⟩, ⟨fun _ => HZ.out⟩, ⟨fun h => by omega⟩, ⟨fun h => by omega⟩, ⟨H1.out, HB.out⟩⟩
        case measure => decide
      · have z1 : decide (g2 = 0) = false := decide_eq_false hz
        go_wp2
        go_ret
        obtain rfl : false = m := by
          rw [← HM.out]
          unfold mapB
          simp [hz]
        exact ⟨rfl, HB.out⟩
    · have c1 : wr.cell? ⟨k1, 3, none⟩ = some (.int .u16 g3) := blk_cell H1.out 3
      by_cases hz : g3 = 0
      · have HZ := Aside0.mk hz
        rw [hz] at c1
        clear hz
        go_wp2
        go_roundw
        case rel => exact ⟨4, rfl, ⟨by decide⟩, ⟨fun _ => F0.out (by omega)⟩, ⟨fun _ => F1.out (by omega)⟩, ⟨fun _ => F2.out (by omega)⟩, ⟨fun _ => HZ.out⟩, ⟨fun h => by omega⟩, ⟨H1.out, HB.out⟩⟩
        case measure => decide
      · have z1 : decide (g3 = 0) = false := decide_eq_false hz
        go_wp2
        go_ret
        obtain rfl : false = m := by
          rw [← HM.out]
          unfold mapB
          simp [hz]
        exact ⟨rfl, HB.out⟩
    · have c1 : wr.cell? ⟨k1, 4, none⟩ = some (.int .u16 g4) := blk_cell H1.out 4
      by_cases hz : g4 = 0
      · have HZ := Aside0.mk hz
        rw [hz] at c1
        clear hz
        go_wp2
        go_roundw
        case rel => exact ⟨5, rfl, ⟨by decide⟩, ⟨fun _ => F0.out (by omega)⟩, ⟨fun _ => F1.out (by omega)⟩, ⟨fun _ => F2.out (by omega)⟩, ⟨fun _ => F3.out (by omega)⟩, ⟨fun _ => HZ.out⟩, ⟨H1.out, HB.out⟩⟩
        case measure => decide
      · have z1 : decide (g4 = 0) = false := decide_eq_false hz
        go_wp2
        go_ret
        obtain rfl : false = m := by
          rw [← HM.out]
          unfold mapB
          simp [hz]
        exact ⟨rfl, HB.out⟩
    · have c1 : wr.cell? ⟨k1, 5, none⟩ = some (.int .u16 g5) := blk_cell H1.out 5
      have HMM := Aside0.mk (show m = (g5 == 65535) by
        rw [← HM.out, F0.out (by omega), F1.out (by omega), F2.out (by omega), F3.out (by omega), F4.out (by omega)]
        rfl)
      go_wp2
      go_ret
      exact ⟨by rw [HMM.out]; rfl, HB.out⟩
set_option maxHeartbeats 8000000 in
set_option maxRecDepth 100000 in
theorem ref04_Unmap_yes (a : Ad) (ha : a.ok) (g0 g1 g2 g3 g4 g5 g6 g7 : Int) (h6 : 0 ≤ g6 ∧ g6 ≤ 65535) (h7 : 0 ≤ g7 ∧ g7 ≤ 65535) (hg : ∀ w, Calls Tryz.prog 29 #[.agg (eA a)] w fun e w' => e = .returned (.agg (e8 [g0, g1, g2, g3, g4, g5, g6, g7])) ∧ Below w.heap.size w w') (hf : a.fam = 6) (hm : mapB g0 g1 g2 g3 g4 g5 = true) (w : World) : Calls Tryz.prog 17 #[.agg (eA a)] w fun e w' => e = .returned (.agg (eA (of4 (g6 * 65536 + g7)))) ∧ Below w.heap.size w w' := by
  have HB := Aside0.mk (Below.refl w.heap.size w)
  have HA := Aside0.mk ha
  have HGR := Aside0.mk hg
  have HMP := Aside0.mk (show ∀ w, Calls Tryz.prog 30 #[.agg (e8 [g0, g1, g2, g3, g4, g5, g6, g7])] w fun e w' => e = .returned (.bool true) ∧ Below w.heap.size w w' by rw [← hm]; exact fun w => ref03_Mapped g0 g1 g2 g3 g4 g5 g6 g7 w)
  have e1 : g6 % 4294967296 = g6 := by omega
  have e2 : g7 % 4294967296 = g7 := by omega
  have e3 : g6 * 65536 % 4294967296 = g6 * 65536 := by omega
  have e4 : (g6 * 65536 + g7) % 4294967296 = g6 * 65536 + g7 := by omega
  have HFA := Aside0.mk (show ∀ (w : World) (g : Nat) (t : TypeId), w.heap[g]? = some (.cells (eA a) t (0, 0)) → w.cell? ⟨g, 0, none⟩ = some (.int .i64 6) from fun w g t h => (blk_cell h 0).trans (by rw [← hf]; exact eA_fam a))
  clear ha hg h6 h7 hm hf
  go_enter Tryz.func17, Tryz.ntmps17
  go_wp2_with (first
    | ((with_reducible refine gate_dst (N := 1) rfl ?_); refine box_event ?hg (N := 1) ?hd (cs := eA a) (t := 30) ?hr ?_; (case hd => rfl); (case hg => rfl); (case hr => first | (go_simp; done) | (go_simp; rfl)); intro k1 hg w1 hbox hb; have H1 := Aside0.mk hbox; have HG1 := Aside0.mk (show w.heap.size ≤ k1 by rw [hg]; exact HB.out.size); replace HB := Aside0.mk (below_step HB.out hb); clear hb hg hbox)
    | ((with_reducible refine gate_dst (N := 2) rfl ?_); refine box_event ?hg (N := 2) ?hd (cs := eA noA) (t := 30) ?hr ?_; (case hd => rfl); (case hg => rfl); (case hr => first | (go_simp; done) | (go_simp; rfl)); intro k2 hg w2 hbox hb; have H2 := Aside0.mk hbox; have HG2 := Aside0.mk (show w.heap.size ≤ k2 by rw [hg]; exact HB.out.size); have HN2 := Aside0.mk (show k1 ≠ k2 by have h1 := (Array.getElem?_eq_some_iff.1 H1.out).1; omega); replace H1 := Aside0.mk (blk_below H1.out hb); replace HB := Aside0.mk (below_step HB.out hb); clear hb hg hbox)
    | ((with_reducible refine gate_dst (N := 5) rfl ?_); refine wpList_load_row rfl 30 (.tmp 1) rfl k1 rfl 30 (eA a) (0, 0) _ H1.out Tryz.underlying30 rfl (infoE HA.out) ?_)
    | (go_at_call 29; refine (HGR.out _).mono ?_; rintro r y1 ⟨rfl, hb⟩; replace H1 := Aside0.mk (blk_below H1.out hb); replace H2 := Aside0.mk (blk_below H2.out hb); replace HB := Aside0.mk (below_step HB.out hb); clear hb)
    | ((with_reducible refine gate_dst (N := 3) rfl ?_); refine box_event ?hg (N := 3) ?hd (cs := e8 [0, 0, 0, 0, 0, 0, 0, 0]) (t := 76) ?hr ?_; (case hd => rfl); (case hg => rfl); (case hr => first | (go_simp; done) | (go_simp; rfl)); intro k3 hg w3 hbox hb; have H3 := Aside0.mk hbox; have HG3 := Aside0.mk (show w.heap.size ≤ k3 by rw [hg]; exact HB.out.size); have HN3 := Aside0.mk (show k1 ≠ k3 ∧ k2 ≠ k3 by have h1 := (Array.getElem?_eq_some_iff.1 H1.out).1; have h2 := (Array.getElem?_eq_some_iff.1 H2.out).1; omega); replace H1 := Aside0.mk (blk_below H1.out hb); replace H2 := Aside0.mk (blk_below H2.out hb); replace HB := Aside0.mk (below_step HB.out hb); clear hb hg hbox)
    | ((with_reducible refine gate_store (t := 76) (p := 3) rfl ?_); refine wpList_store_row rfl 76 (.tmp 3) (.tmp 6) rfl k3 (e8 [g0, g1, g2, g3, g4, g5, g6, g7]) rfl rfl 76 (e8 [0, 0, 0, 0, 0, 0, 0, 0]) H3.out (inf8 rfl) rfl (e8_one _) ?_; replace H1 := Aside0.mk ((row_far (cells := e8 [g0, g1, g2, g3, g4, g5, g6, g7]) HN3.out.1).trans H1.out); replace H2 := Aside0.mk ((row_far (cells := e8 [g0, g1, g2, g3, g4, g5, g6, g7]) HN3.out.2).trans H2.out); replace H3 := Aside0.mk (row_new (cells := e8 [g0, g1, g2, g3, g4, g5, g6, g7]) H3.out); replace HB := Aside0.mk (below_row HB.out HG3.out (e8 [g0, g1, g2, g3, g4, g5, g6, g7])); generalize w3.setRow k3 (e8 [g0, g1, g2, g3, g4, g5, g6, g7]) = y3 at H1 H2 H3 HB ⊢)
    | ((with_reducible refine gate_dst (N := 7) rfl ?_); refine wpList_load_row rfl 76 (.tmp 3) rfl k3 rfl 76 (e8 [g0, g1, g2, g3, g4, g5, g6, g7]) (0, 0) _ H3.out Tryz.underlying76 rfl (inf8 rfl) ?_)
    | (go_at_call 30; refine (HMP.out _).mono ?_; rintro r y4 ⟨rfl, hb⟩; replace H1 := Aside0.mk (blk_below H1.out hb); replace H2 := Aside0.mk (blk_below H2.out hb); replace H3 := Aside0.mk (blk_below H3.out hb); replace HB := Aside0.mk (below_step HB.out hb); have cf := HFA.out _ _ _ H1.out; have c6 : y4.cell? ⟨k3, 6, none⟩ = some (.int .u16 g6) := blk_cell H3.out 6; have c7 : y4.cell? ⟨k3, 7, none⟩ = some (.int .u16 g7) := blk_cell H3.out 7; clear hb)
    | (go_at_call 13; refine (ref04_Of4 (g6 * 65536 + g7) _).mono ?_; rintro r y5 ⟨rfl, hb⟩; replace H2 := Aside0.mk (blk_below H2.out hb); replace HB := Aside0.mk (below_step HB.out hb); clear hb)
    | ((with_reducible refine gate_store (t := 30) (p := 2) rfl ?_); refine wpList_store_row rfl 30 (.tmp 2) (.tmp 25) rfl k2 (eA (of4 (g6 * 65536 + g7))) rfl rfl 30 (eA noA) H2.out (infoE (ok_of4 (g6 * 65536 + g7))) ((eA_size ok_noA).trans (eA_size (ok_of4 (g6 * 65536 + g7))).symm) (eA_one _) ?_; replace H2 := Aside0.mk (row_new (cells := eA (of4 (g6 * 65536 + g7))) H2.out); replace HB := Aside0.mk (below_row HB.out HG2.out (eA (of4 (g6 * 65536 + g7))))))
  refine bodyPost_ret (results_cell_row rfl _ _ k2 30 (eA (of4 (g6 * 65536 + g7))) (0, 0) _ rfl H2.out Tryz.underlying30 rfl (infoE (ok_of4 (g6 * 65536 + g7)))) rfl ?_
  exact ⟨rfl, HB.out⟩
set_option maxHeartbeats 8000000 in
set_option maxRecDepth 100000 in
theorem ref04_Unmap_no (a : Ad) (ha : a.ok) (g0 g1 g2 g3 g4 g5 g6 g7 : Int) (h6 : 0 ≤ g6 ∧ g6 ≤ 65535) (h7 : 0 ≤ g7 ∧ g7 ≤ 65535) (hg : ∀ w, Calls Tryz.prog 29 #[.agg (eA a)] w fun e w' => e = .returned (.agg (e8 [g0, g1, g2, g3, g4, g5, g6, g7])) ∧ Below w.heap.size w w') (hf : a.fam = 6) (hm : mapB g0 g1 g2 g3 g4 g5 = false) (w : World) : Calls Tryz.prog 17 #[.agg (eA a)] w fun e w' => e = .returned (.agg (eA (a))) ∧ Below w.heap.size w w' := by
  have HB := Aside0.mk (Below.refl w.heap.size w)
  have HA := Aside0.mk ha
  have HGR := Aside0.mk hg
  have HMP := Aside0.mk (show ∀ w, Calls Tryz.prog 30 #[.agg (e8 [g0, g1, g2, g3, g4, g5, g6, g7])] w fun e w' => e = .returned (.bool false) ∧ Below w.heap.size w w' by rw [← hm]; exact fun w => ref03_Mapped g0 g1 g2 g3 g4 g5 g6 g7 w)
  have HFA := Aside0.mk (show ∀ (w : World) (g : Nat) (t : TypeId), w.heap[g]? = some (.cells (eA a) t (0, 0)) → w.cell? ⟨g, 0, none⟩ = some (.int .i64 6) from fun w g t h => (blk_cell h 0).trans (by rw [← hf]; exact eA_fam a))
  clear ha hg h6 h7 hm hf
  go_enter Tryz.func17, Tryz.ntmps17
  go_wp2_with (first
    | ((with_reducible refine gate_dst (N := 1) rfl ?_); refine box_event ?hg (N := 1) ?hd (cs := eA a) (t := 30) ?hr ?_; (case hd => rfl); (case hg => rfl); (case hr => first | (go_simp; done) | (go_simp; rfl)); intro k1 hg w1 hbox hb; have H1 := Aside0.mk hbox; have HG1 := Aside0.mk (show w.heap.size ≤ k1 by rw [hg]; exact HB.out.size); replace HB := Aside0.mk (below_step HB.out hb); clear hb hg hbox)
    | ((with_reducible refine gate_dst (N := 2) rfl ?_); refine box_event ?hg (N := 2) ?hd (cs := eA noA) (t := 30) ?hr ?_; (case hd => rfl); (case hg => rfl); (case hr => first | (go_simp; done) | (go_simp; rfl)); intro k2 hg w2 hbox hb; have H2 := Aside0.mk hbox; have HG2 := Aside0.mk (show w.heap.size ≤ k2 by rw [hg]; exact HB.out.size); have HN2 := Aside0.mk (show k1 ≠ k2 by have h1 := (Array.getElem?_eq_some_iff.1 H1.out).1; omega); replace H1 := Aside0.mk (blk_below H1.out hb); replace HB := Aside0.mk (below_step HB.out hb); clear hb hg hbox)
    | ((with_reducible refine gate_dst (N := 5) rfl ?_); refine wpList_load_row rfl 30 (.tmp 1) rfl k1 rfl 30 (eA a) (0, 0) _ H1.out Tryz.underlying30 rfl (infoE HA.out) ?_)
    | (go_at_call 29; refine (HGR.out _).mono ?_; rintro r y1 ⟨rfl, hb⟩; replace H1 := Aside0.mk (blk_below H1.out hb); replace H2 := Aside0.mk (blk_below H2.out hb); replace HB := Aside0.mk (below_step HB.out hb); clear hb)
    | ((with_reducible refine gate_dst (N := 3) rfl ?_); refine box_event ?hg (N := 3) ?hd (cs := e8 [0, 0, 0, 0, 0, 0, 0, 0]) (t := 76) ?hr ?_; (case hd => rfl); (case hg => rfl); (case hr => first | (go_simp; done) | (go_simp; rfl)); intro k3 hg w3 hbox hb; have H3 := Aside0.mk hbox; have HG3 := Aside0.mk (show w.heap.size ≤ k3 by rw [hg]; exact HB.out.size); have HN3 := Aside0.mk (show k1 ≠ k3 ∧ k2 ≠ k3 by have h1 := (Array.getElem?_eq_some_iff.1 H1.out).1; have h2 := (Array.getElem?_eq_some_iff.1 H2.out).1; omega); replace H1 := Aside0.mk (blk_below H1.out hb); replace H2 := Aside0.mk (blk_below H2.out hb); replace HB := Aside0.mk (below_step HB.out hb); clear hb hg hbox)
    | ((with_reducible refine gate_store (t := 76) (p := 3) rfl ?_); refine wpList_store_row rfl 76 (.tmp 3) (.tmp 6) rfl k3 (e8 [g0, g1, g2, g3, g4, g5, g6, g7]) rfl rfl 76 (e8 [0, 0, 0, 0, 0, 0, 0, 0]) H3.out (inf8 rfl) rfl (e8_one _) ?_; replace H1 := Aside0.mk ((row_far (cells := e8 [g0, g1, g2, g3, g4, g5, g6, g7]) HN3.out.1).trans H1.out); replace H2 := Aside0.mk ((row_far (cells := e8 [g0, g1, g2, g3, g4, g5, g6, g7]) HN3.out.2).trans H2.out); replace H3 := Aside0.mk (row_new (cells := e8 [g0, g1, g2, g3, g4, g5, g6, g7]) H3.out); replace HB := Aside0.mk (below_row HB.out HG3.out (e8 [g0, g1, g2, g3, g4, g5, g6, g7])); generalize w3.setRow k3 (e8 [g0, g1, g2, g3, g4, g5, g6, g7]) = y3 at H1 H2 H3 HB ⊢)
    | ((with_reducible refine gate_dst (N := 7) rfl ?_); refine wpList_load_row rfl 76 (.tmp 3) rfl k3 rfl 76 (e8 [g0, g1, g2, g3, g4, g5, g6, g7]) (0, 0) _ H3.out Tryz.underlying76 rfl (inf8 rfl) ?_)
    | (go_at_call 30; refine (HMP.out _).mono ?_; rintro r y4 ⟨rfl, hb⟩; replace H1 := Aside0.mk (blk_below H1.out hb); replace H2 := Aside0.mk (blk_below H2.out hb); replace H3 := Aside0.mk (blk_below H3.out hb); replace HB := Aside0.mk (below_step HB.out hb); have cf := HFA.out _ _ _ H1.out; have c6 : y4.cell? ⟨k3, 6, none⟩ = some (.int .u16 g6) := blk_cell H3.out 6; have c7 : y4.cell? ⟨k3, 7, none⟩ = some (.int .u16 g7) := blk_cell H3.out 7; clear hb)
    | ((with_reducible refine gate_dst (N := 16) rfl ?_); refine wpList_load_row rfl 30 (.tmp 1) rfl k1 rfl 30 (eA a) (0, 0) _ H1.out Tryz.underlying30 rfl (infoE HA.out) ?_)
    | ((with_reducible refine gate_store (t := 30) (p := 2) rfl ?_); refine wpList_store_row rfl 30 (.tmp 2) (.tmp 16) rfl k2 (eA (a)) rfl rfl 30 (eA noA) H2.out (infoE HA.out) ((eA_size ok_noA).trans (eA_size HA.out).symm) (eA_one _) ?_; replace H2 := Aside0.mk (row_new (cells := eA (a)) H2.out); replace HB := Aside0.mk (below_row HB.out HG2.out (eA (a)))))
  refine bodyPost_ret (results_cell_row rfl _ _ k2 30 (eA (a)) (0, 0) _ rfl H2.out Tryz.underlying30 rfl (infoE HA.out)) rfl ?_
  exact ⟨rfl, HB.out⟩
set_option maxHeartbeats 8000000 in
set_option maxRecDepth 100000 in
theorem ref04_Unmap_far (a : Ad) (ha : a.ok) (g0 g1 g2 g3 g4 g5 g6 g7 : Int) (h6 : 0 ≤ g6 ∧ g6 ≤ 65535) (h7 : 0 ≤ g7 ∧ g7 ≤ 65535) (hg : ∀ w, Calls Tryz.prog 29 #[.agg (eA a)] w fun e w' => e = .returned (.agg (e8 [g0, g1, g2, g3, g4, g5, g6, g7])) ∧ Below w.heap.size w w') (hf : ¬ a.fam = 6) (w : World) : Calls Tryz.prog 17 #[.agg (eA a)] w fun e w' => e = .returned (.agg (eA (a))) ∧ Below w.heap.size w w' := by
  have HB := Aside0.mk (Below.refl w.heap.size w)
  have HA := Aside0.mk ha
  have HGR := Aside0.mk hg
  obtain ⟨m, hm⟩ : ∃ m, mapB g0 g1 g2 g3 g4 g5 = m := ⟨_, rfl⟩
  have HMP := Aside0.mk (show ∀ w, Calls Tryz.prog 30 #[.agg (e8 [g0, g1, g2, g3, g4, g5, g6, g7])] w fun e w' => e = .returned (.bool m) ∧ Below w.heap.size w w' by rw [← hm]; exact fun w => ref03_Mapped g0 g1 g2 g3 g4 g5 g6 g7 w)
  have HFA := Aside0.mk (show ∀ (w : World) (g : Nat) (t : TypeId), w.heap[g]? = some (.cells (eA a) t (0, 0)) → w.cell? ⟨g, 0, none⟩ = some (.int .i64 a.fam) from fun w g t h => (blk_cell h 0).trans (by exact eA_fam a))
  have z1 : decide (a.fam = 6) = false := decide_eq_false hf
  have HZ := Aside0.mk hf
  clear ha hg h6 h7 hm
  go_enter Tryz.func17, Tryz.ntmps17
  go_wp2_with (first
    | ((with_reducible refine gate_dst (N := 1) rfl ?_); refine box_event ?hg (N := 1) ?hd (cs := eA a) (t := 30) ?hr ?_; (case hd => rfl); (case hg => rfl); (case hr => first | (go_simp; done) | (go_simp; rfl)); intro k1 hg w1 hbox hb; have H1 := Aside0.mk hbox; have HG1 := Aside0.mk (show w.heap.size ≤ k1 by rw [hg]; exact HB.out.size); replace HB := Aside0.mk (below_step HB.out hb); clear hb hg hbox)
    | ((with_reducible refine gate_dst (N := 2) rfl ?_); refine box_event ?hg (N := 2) ?hd (cs := eA noA) (t := 30) ?hr ?_; (case hd => rfl); (case hg => rfl); (case hr => first | (go_simp; done) | (go_simp; rfl)); intro k2 hg w2 hbox hb; have H2 := Aside0.mk hbox; have HG2 := Aside0.mk (show w.heap.size ≤ k2 by rw [hg]; exact HB.out.size); have HN2 := Aside0.mk (show k1 ≠ k2 by have h1 := (Array.getElem?_eq_some_iff.1 H1.out).1; omega); replace H1 := Aside0.mk (blk_below H1.out hb); replace HB := Aside0.mk (below_step HB.out hb); clear hb hg hbox)
    | ((with_reducible refine gate_dst (N := 5) rfl ?_); refine wpList_load_row rfl 30 (.tmp 1) rfl k1 rfl 30 (eA a) (0, 0) _ H1.out Tryz.underlying30 rfl (infoE HA.out) ?_)
    | (go_at_call 29; refine (HGR.out _).mono ?_; rintro r y1 ⟨rfl, hb⟩; replace H1 := Aside0.mk (blk_below H1.out hb); replace H2 := Aside0.mk (blk_below H2.out hb); replace HB := Aside0.mk (below_step HB.out hb); clear hb)
    | ((with_reducible refine gate_dst (N := 3) rfl ?_); refine box_event ?hg (N := 3) ?hd (cs := e8 [0, 0, 0, 0, 0, 0, 0, 0]) (t := 76) ?hr ?_; (case hd => rfl); (case hg => rfl); (case hr => first | (go_simp; done) | (go_simp; rfl)); intro k3 hg w3 hbox hb; have H3 := Aside0.mk hbox; have HG3 := Aside0.mk (show w.heap.size ≤ k3 by rw [hg]; exact HB.out.size); have HN3 := Aside0.mk (show k1 ≠ k3 ∧ k2 ≠ k3 by have h1 := (Array.getElem?_eq_some_iff.1 H1.out).1; have h2 := (Array.getElem?_eq_some_iff.1 H2.out).1; omega); replace H1 := Aside0.mk (blk_below H1.out hb); replace H2 := Aside0.mk (blk_below H2.out hb); replace HB := Aside0.mk (below_step HB.out hb); clear hb hg hbox)
    | ((with_reducible refine gate_store (t := 76) (p := 3) rfl ?_); refine wpList_store_row rfl 76 (.tmp 3) (.tmp 6) rfl k3 (e8 [g0, g1, g2, g3, g4, g5, g6, g7]) rfl rfl 76 (e8 [0, 0, 0, 0, 0, 0, 0, 0]) H3.out (inf8 rfl) rfl (e8_one _) ?_; replace H1 := Aside0.mk ((row_far (cells := e8 [g0, g1, g2, g3, g4, g5, g6, g7]) HN3.out.1).trans H1.out); replace H2 := Aside0.mk ((row_far (cells := e8 [g0, g1, g2, g3, g4, g5, g6, g7]) HN3.out.2).trans H2.out); replace H3 := Aside0.mk (row_new (cells := e8 [g0, g1, g2, g3, g4, g5, g6, g7]) H3.out); replace HB := Aside0.mk (below_row HB.out HG3.out (e8 [g0, g1, g2, g3, g4, g5, g6, g7])); generalize w3.setRow k3 (e8 [g0, g1, g2, g3, g4, g5, g6, g7]) = y3 at H1 H2 H3 HB ⊢)
    | ((with_reducible refine gate_dst (N := 7) rfl ?_); refine wpList_load_row rfl 76 (.tmp 3) rfl k3 rfl 76 (e8 [g0, g1, g2, g3, g4, g5, g6, g7]) (0, 0) _ H3.out Tryz.underlying76 rfl (inf8 rfl) ?_)
    | (go_at_call 30; refine (HMP.out _).mono ?_; rintro r y4 ⟨rfl, hb⟩; replace H1 := Aside0.mk (blk_below H1.out hb); replace H2 := Aside0.mk (blk_below H2.out hb); replace H3 := Aside0.mk (blk_below H3.out hb); replace HB := Aside0.mk (below_step HB.out hb); have cf := HFA.out _ _ _ H1.out; have c6 : y4.cell? ⟨k3, 6, none⟩ = some (.int .u16 g6) := blk_cell H3.out 6; have c7 : y4.cell? ⟨k3, 7, none⟩ = some (.int .u16 g7) := blk_cell H3.out 7; clear hb)
    | ((with_reducible refine gate_dst (N := 16) rfl ?_); refine wpList_load_row rfl 30 (.tmp 1) rfl k1 rfl 30 (eA a) (0, 0) _ H1.out Tryz.underlying30 rfl (infoE HA.out) ?_)
    | ((with_reducible refine gate_store (t := 30) (p := 2) rfl ?_); refine wpList_store_row rfl 30 (.tmp 2) (.tmp 16) rfl k2 (eA (a)) rfl rfl 30 (eA noA) H2.out (infoE HA.out) ((eA_size ok_noA).trans (eA_size HA.out).symm) (eA_one _) ?_; replace H2 := Aside0.mk (row_new (cells := eA (a)) H2.out); replace HB := Aside0.mk (below_row HB.out HG2.out (eA (a)))))
  refine bodyPost_ret (results_cell_row rfl _ _ k2 30 (eA (a)) (0, 0) _ rfl H2.out Tryz.underlying30 rfl (infoE HA.out)) rfl ?_
  exact ⟨rfl, HB.out⟩
theorem ref04_Unmap (a : Ad) (ha : a.ok) (w : World) : Calls Tryz.prog 17 #[.agg (eA a)] w fun e w' => e = .returned (.agg (eA (unmapA a))) ∧ Below w.heap.size w w' := by
  rw [unmap_same ha]
  obtain ⟨f, l⟩ := a
  obtain ⟨b0, b1, b2, b3, b4, b5, b6, b7, b8, b9, b10, b11, b12, b13, b14, b15, rfl⟩ := list16 ha.1
  have hr := ha.2
  simp only [List.mem_cons, List.not_mem_nil, or_false, forall_eq_or_imp, forall_eq] at hr
  have hmm : mappedB (grp [b0, b1, b2, b3, b4, b5, b6, b7, b8, b9, b10, b11, b12, b13, b14, b15]) = mapB (b0 * 256 + b1) (b2 * 256 + b3) (b4 * 256 + b5) (b6 * 256 + b7) (b8 * 256 + b9) (b10 * 256 + b11) := rfl
  unfold unmapR
  by_cases hf : f = 6
  · cases hm : mapB (b0 * 256 + b1) (b2 * 256 + b3) (b4 * 256 + b5) (b6 * 256 + b7) (b8 * 256 + b9) (b10 * 256 + b11) with
    | true =>
      rw [if_pos (show f = 6 ∧ mappedB (grp [b0, b1, b2, b3, b4, b5, b6, b7, b8, b9, b10, b11, b12, b13, b14, b15]) = true from ⟨hf, hmm.trans hm⟩)]
      exact ref04_Unmap_yes ⟨f, [b0, b1, b2, b3, b4, b5, b6, b7, b8, b9, b10, b11, b12, b13, b14, b15]⟩ ha (b0 * 256 + b1) (b2 * 256 + b3) (b4 * 256 + b5) (b6 * 256 + b7) (b8 * 256 + b9) (b10 * 256 + b11) (b12 * 256 + b13) (b14 * 256 + b15) (by omega) (by omega) (fun w => ref04_Groups f b0 b1 b2 b3 b4 b5 b6 b7 b8 b9 b10 b11 b12 b13 b14 b15 ha w) hf hm w
    | false =>
      rw [if_neg (show ¬ (f = 6 ∧ mappedB (grp [b0, b1, b2, b3, b4, b5, b6, b7, b8, b9, b10, b11, b12, b13, b14, b15]) = true) from fun h => by rw [hmm, hm] at h; cases h.2)]
      exact ref04_Unmap_no ⟨f, [b0, b1, b2, b3, b4, b5, b6, b7, b8, b9, b10, b11, b12, b13, b14, b15]⟩ ha (b0 * 256 + b1) (b2 * 256 + b3) (b4 * 256 + b5) (b6 * 256 + b7) (b8 * 256 + b9) (b10 * 256 + b11) (b12 * 256 + b13) (b14 * 256 + b15) (by omega) (by omega) (fun w => ref04_Groups f b0 b1 b2 b3 b4 b5 b6 b7 b8 b9 b10 b11 b12 b13 b14 b15 ha w) hf hm w
  · rw [if_neg (show ¬ (f = 6 ∧ mappedB (grp [b0, b1, b2, b3, b4, b5, b6, b7, b8, b9, b10, b11, b12, b13, b14, b15]) = true) from fun h => hf h.1)]
    exact ref04_Unmap_far ⟨f, [b0, b1, b2, b3, b4, b5, b6, b7, b8, b9, b10, b11, b12, b13, b14, b15]⟩ ha (b0 * 256 + b1) (b2 * 256 + b3) (b4 * 256 + b5) (b6 * 256 + b7) (b8 * 256 + b9) (b10 * 256 + b11) (b12 * 256 + b13) (b14 * 256 + b15) (by omega) (by omega) (fun w => ref04_Groups f b0 b1 b2 b3 b4 b5 b6 b7 b8 b9 b10 b11 b12 b13 b14 b15 ha w) hf w
end Go.Proofs.YthdognlkacjkhaaGreatDoor.P
