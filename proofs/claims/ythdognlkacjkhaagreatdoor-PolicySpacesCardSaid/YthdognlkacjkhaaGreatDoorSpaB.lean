/-
  addr.Map, addr.Unmap.
-/
import Derived.Test.YthdognlkacjkhaaGreatDoorM8
import Derived.Test.YthdognlkacjkhaaGreatDoorM5
namespace Go.Proofs.YthdognlkacjkhaaGreatDoor.P
open Go.RowKit Go.Proofs.YthdognlkacjkhaaGreatDoorW.PrintWords Go.Proofs.YthdognlkacjkhaaGreatDoorW.PrintLast Go.Proofs.YthdognlkacjkhaaGreatDoorW.PrintMore
set_option linter.unusedVariables false
set_option linter.unusedSimpArgs false
def a6 : Ad := ⟨6, [0, 0, 0, 0, 0, 0, 0, 0, 0, 0, 255, 255, 0, 0, 0, 0]⟩
theorem ok_a6 : a6.ok := ⟨rfl, fun x hx => by simp only [a6, List.mem_cons, List.not_mem_nil, or_false] at hx; omega⟩
set_option maxHeartbeats 4000000 in
set_option maxRecDepth 100000 in
theorem addr_Map_no (a : Ad) (ha : a.ok) (h4 : (a.fam == 4) = false) (w : World) : Calls Tryz.prog 51 #[.agg (eA a)] w fun e w' => e = .returned (.agg (eA a)) ∧ Below w.heap.size w w' := by
  have HB := Aside0.mk (Below.refl w.heap.size w)
  have HA := Aside0.mk ha
  clear ha
  go_enter Tryz.func51, Tryz.ntmps51
  go_wp2_with (first
    | ((with_reducible refine gate_dst (N := 1) rfl ?_); refine box_event ?hg (N := 1) ?hd (cs := eA a) (t := 30) ?hr ?_; (case hd => rfl); (case hg => rfl); (case hr => first | (go_simp; done) | (go_simp; rfl)); intro g1 hg w1 hbox hb; have H1 := Aside0.mk hbox; have HG1 := Aside0.mk (show w.heap.size ≤ g1 by rw [hg]; exact below_size (bel_later HB.out)); have h0 := (blk_cell hbox 0).trans (eA_fam a); replace HB := Aside0.mk (below_step (bel_later HB.out) hb); clear hb hg hbox)
    | ((with_reducible refine gate_dst (N := 2) rfl ?_); refine box_event ?hg (N := 2) ?hd (cs := eA noA) (t := 30) ?hr ?_; (case hd => rfl); (case hg => rfl); (case hr => first | (go_simp; done) | (go_simp; rfl)); intro g2 hg w2 hbox hb; have H2 := Aside0.mk hbox; have HG2 := Aside0.mk (show w.heap.size ≤ g2 by rw [hg]; exact below_size (bel_later HB.out)); have HN12 := Aside0.mk (show g1 ≠ g2 by rw [hg]; exact Nat.ne_of_lt (blk_lt (blk_later H1.out))); replace H1 := Aside0.mk (blk_below (blk_later H1.out) hb); replace h0 := (blk_cell H1.out 0).trans (eA_fam a); replace HB := Aside0.mk (below_step (bel_later HB.out) hb); clear hb hg hbox)
    | ((with_reducible refine gate_dst (N := 7) rfl ?_); refine wpList_load_row rfl 30 (.tmp 1) rfl g1 rfl 30 (eA a) (0, 0) _ H1.out Tryz.underlying30 rfl (infoE HA.out) ?_)
    | ((with_reducible refine gate_store (t := 30) (p := 2) rfl ?_); refine wpList_store_row rfl 30 (.tmp 2) (.tmp 7) rfl g2 (eA a) rfl rfl 30 (eA noA) H2.out (infoE HA.out) ((eA_size ok_noA).trans (eA_size HA.out).symm) (eA_one _) ?_; replace H1 := Aside0.mk ((row_far (cells := eA a) HN12.out).trans H1.out); replace H2 := Aside0.mk (row_new (cells := eA a) H2.out); replace HB := Aside0.mk (below_row HB.out HG2.out (eA a)); generalize w2.setRow g2 (eA a) = w3 at HB H2 H1 ⊢))
  refine bodyPost_ret (results_cell_row rfl _ _ g2 30 (eA a) (0, 0) _ rfl H2.out Tryz.underlying30 rfl (infoE HA.out)) rfl ?_
  exact ⟨rfl, HB.out⟩
set_option maxHeartbeats 4000000 in
set_option maxRecDepth 100000 in
theorem addr_Map_yes (b0 b1 b2 b3 b4 b5 b6 b7 b8 b9 b10 b11 b12 b13 b14 b15 : Int) (ha : Ad.ok ⟨4, [b0, b1, b2, b3, b4, b5, b6, b7, b8, b9, b10, b11, b12, b13, b14, b15]⟩) (w : World) : Calls Tryz.prog 51 #[.agg (eA ⟨4, [b0, b1, b2, b3, b4, b5, b6, b7, b8, b9, b10, b11, b12, b13, b14, b15]⟩)] w fun e w' => e = .returned (.agg (eA ⟨6, [0, 0, 0, 0, 0, 0, 0, 0, 0, 0, 255, 255, b0, b1, b2, b3]⟩)) ∧ Below w.heap.size w w' := by
  have HB := Aside0.mk (Below.refl w.heap.size w)
  have HA := Aside0.mk ha
  have HM := Aside0.mk (show Ad.ok ⟨6, [0, 0, 0, 0, 0, 0, 0, 0, 0, 0, 255, 255, b0, b1, b2, b3]⟩ from (show mapA ⟨4, [b0, b1, b2, b3, b4, b5, b6, b7, b8, b9, b10, b11, b12, b13, b14, b15]⟩ = ⟨6, [0, 0, 0, 0, 0, 0, 0, 0, 0, 0, 255, 255, b0, b1, b2, b3]⟩ from rfl) ▸ ok_map ha)
  clear ha
  go_enter Tryz.func51, Tryz.ntmps51
  go_wp2_with (first
    | ((with_reducible refine gate_dst (N := 1) rfl ?_); refine box_event ?hg (N := 1) ?hd (cs := eA ⟨4, [b0, b1, b2, b3, b4, b5, b6, b7, b8, b9, b10, b11, b12, b13, b14, b15]⟩) (t := 30) ?hr ?_; (case hd => rfl); (case hg => rfl); (case hr => first | (go_simp; done) | (go_simp; rfl)); intro g1 hg w1 hbox hb; have H1 := Aside0.mk hbox; have HG1 := Aside0.mk (show w.heap.size ≤ g1 by rw [hg]; exact below_size (bel_later HB.out)); have h0 := (blk_cell hbox 0).trans (eA_fam ⟨4, [b0, b1, b2, b3, b4, b5, b6, b7, b8, b9, b10, b11, b12, b13, b14, b15]⟩); replace HB := Aside0.mk (below_step (bel_later HB.out) hb); clear hb hg hbox)
    | ((with_reducible refine gate_dst (N := 2) rfl ?_); refine box_event ?hg (N := 2) ?hd (cs := eA noA) (t := 30) ?hr ?_; (case hd => rfl); (case hg => rfl); (case hr => first | (go_simp; done) | (go_simp; rfl)); intro g2 hg w2 hbox hb; have H2 := Aside0.mk hbox; have HG2 := Aside0.mk (show w.heap.size ≤ g2 by rw [hg]; exact below_size (bel_later HB.out)); have HN12 := Aside0.mk (show g1 ≠ g2 by rw [hg]; exact Nat.ne_of_lt (blk_lt (blk_later H1.out))); replace H1 := Aside0.mk (blk_below (blk_later H1.out) hb); replace h0 := (blk_cell H1.out 0).trans (eA_fam ⟨4, [b0, b1, b2, b3, b4, b5, b6, b7, b8, b9, b10, b11, b12, b13, b14, b15]⟩); replace HB := Aside0.mk (below_step (bel_later HB.out) hb); clear hb hg hbox)
    | ((with_reducible refine gate_dst (N := 8) rfl ?_); refine Kd.event_run (v := .agg #[.int .u8 0, .int .u8 0, .int .u8 0, .int .u8 0, .int .u8 0, .int .u8 0, .int .u8 0, .int .u8 0, .int .u8 0, .int .u8 0, .int .u8 255, .int .u8 255, .int .u8 0, .int .u8 0, .int .u8 0, .int .u8 0]) rfl ?hr ?_; (case hr => first | (go_simp; done) | (go_simp; rfl)))
    | ((with_reducible refine gate_dst (N := 9) rfl ?_); refine Kd.event_run (v := .agg (eA a6)) rfl ?hr ?_; (case hr => first | (go_simp; done) | (go_simp; rfl)))
    | ((with_reducible refine gate_dst (N := 3) rfl ?_); refine box_event ?hg (N := 3) ?hd (cs := eA noA) (t := 30) ?hr ?_; (case hd => rfl); (case hg => rfl); (case hr => first | (go_simp; done) | (go_simp; rfl)); intro g3 hg w3 hbox hb; have H3 := Aside0.mk hbox; have HG3 := Aside0.mk (show w.heap.size ≤ g3 by rw [hg]; exact below_size (bel_later HB.out)); clear h0; have HN3 := Aside0.mk (show g1 ≠ g3 ∧ g2 ≠ g3 by rw [hg]; exact ⟨Nat.ne_of_lt (blk_lt (blk_later H1.out)), Nat.ne_of_lt (blk_lt (blk_later H2.out))⟩); replace H1 := Aside0.mk (blk_below (blk_later H1.out) hb); replace H2 := Aside0.mk (blk_below (blk_later H2.out) hb); replace HB := Aside0.mk (below_step (bel_later HB.out) hb); clear hb hg hbox)
    | ((with_reducible refine gate_store (t := 30) (p := 3) rfl ?_); refine wpList_store_row rfl 30 (.tmp 3) (.tmp 9) rfl g3 (eA a6) rfl rfl 30 (eA noA) H3.out (infoE ok_a6) ((eA_size ok_noA).trans (eA_size ok_a6).symm) (eA_one _) ?_; replace H1 := Aside0.mk ((row_far (cells := eA a6) HN3.out.1).trans H1.out); replace H2 := Aside0.mk ((row_far (cells := eA a6) HN3.out.2).trans H2.out); replace H3 := Aside0.mk (row_new (cells := eA a6) H3.out); replace HB := Aside0.mk (below_row HB.out HG3.out (eA a6)); generalize w3.setRow g3 (eA a6) = w4 at HB H3 H1 H2 ⊢))
  obtain ⟨S, hS⟩ : ∃ S : World → Prop, S = fun _ => True := ⟨_, rfl⟩
  have HS := Aside0.mk (show ∀ x : World, S x by intro x; rw [hS]; trivial)
  clear hS
  have s0 := HS.out w4.drew
  (try simp only [Act.put, List.getElem_toArray, List.getElem_cons_succ, List.getElem_cons_zero, List.setIfInBounds_toArray, List.set_cons_zero, List.set_cons_succ])
  refine wp_region_held_drew (S := S) (by kernel_rfl) s0 (fun _ => ?_)
  refine wpAnyH_take (i := 0) (v := .pointer (some ⟨g3, 1, none⟩)) rfl (by kernel_rfl) (by kernel_rfl) (by kernel_rfl) (fun _ _ _ h => h) (Or.inl ⟨by kernel_rfl, fun w' h => by first | (go_simp; done) | (go_simp; rfl)⟩) s0 ?_
  (try simp only [Act.put, List.getElem_toArray, List.getElem_cons_succ, List.getElem_cons_zero, List.setIfInBounds_toArray, List.set_cons_zero, List.set_cons_succ])
  refine wpAnyH_take (i := 1) (v := .slice (some ⟨g3, 13, none⟩) 4 4) rfl (by kernel_rfl) (by kernel_rfl) (by kernel_rfl) (fun _ _ _ h => h) (Or.inl ⟨by kernel_rfl, fun w' h => by first | (go_simp; done) | (go_simp; rfl)⟩) s0 ?_
  (try simp only [Act.put, List.getElem_toArray, List.getElem_cons_succ, List.getElem_cons_zero, List.setIfInBounds_toArray, List.set_cons_zero, List.set_cons_succ])
  refine wpAnyH_take (i := 2) (v := .pointer (some ⟨g1, 1, none⟩)) rfl (by kernel_rfl) (by kernel_rfl) (by kernel_rfl) (fun _ _ _ h => h) (Or.inl ⟨by kernel_rfl, fun w' h => by first | (go_simp; done) | (go_simp; rfl)⟩) s0 ?_
  (try simp only [Act.put, List.getElem_toArray, List.getElem_cons_succ, List.getElem_cons_zero, List.setIfInBounds_toArray, List.set_cons_zero, List.set_cons_succ])
  refine wpAnyH_take (i := 3) (v := .slice (some ⟨g1, 1, none⟩) 4 16) rfl (by kernel_rfl) (by kernel_rfl) (by kernel_rfl) (fun _ _ _ h => h) (Or.inl ⟨by kernel_rfl, fun w' h => by first | (go_simp; done) | (go_simp; rfl)⟩) s0 ?_
  (try simp only [Act.put, List.getElem_toArray, List.getElem_cons_succ, List.getElem_cons_zero, List.setIfInBounds_toArray, List.set_cons_zero, List.set_cons_succ])
  replace H1 := Aside0.mk (blk_later (b := w4.drew) H1.out)
  replace H2 := Aside0.mk (blk_later (b := w4.drew) H2.out)
  replace H3 := Aside0.mk (blk_later (b := w4.drew) H3.out)
  replace HB := Aside0.mk (bel_later (b := w4.drew) HB.out)
  have hcp := Aside0.mk (run_copy_row (P := Tryz.prog) w4.drew 102 102 3 5 g3 13 4 4 ⟨g1, 1, none⟩ 4 16 (eA a6) 30 ([.int .u8 b0, .int .u8 b1, .int .u8 b2, .int .u8 b3]) Tryz.underlying102 (by kernel_rfl) H3.out rfl (fun j v hv => by rw [Addr.add_mid]; exact (cell_of_row _ g1 (1 + j) (eA ⟨4, [b0, b1, b2, b3, b4, b5, b6, b7, b8, b9, b10, b11, b12, b13, b14, b15]⟩) _ (0, 0) H1.out).trans (by match j, hv with | 0, hv => exact hv | 1, hv => exact hv | 2, hv => exact hv | 3, hv => exact hv | n + 4, hv => simp at hv)) (by show 13 + 4 ≤ (eA a6).size; rw [eA_size ok_a6]; decide) (fun v hv => by simp only [List.mem_cons, List.not_mem_nil, or_false] at hv; rcases hv with rfl | rfl | rfl | rfl <;> rfl))
  have HW := Aside0.mk (show ((eA a6).toList.take 13 ++ ([.int .u8 b0, .int .u8 b1, .int .u8 b2, .int .u8 b3] : List Value) ++ (eA a6).toList.drop (13 + ([.int .u8 b0, .int .u8 b1, .int .u8 b2, .int .u8 b3] : List Value).length)).toArray = eA ⟨6, [0, 0, 0, 0, 0, 0, 0, 0, 0, 0, 255, 255, b0, b1, b2, b3]⟩ from rfl)
  refine held_step (i := 4) (by kernel_rfl) rfl (by kernel_rfl) (fun K hK => ?_)
  refine wp_copy_runA w4.drew (.tmp 11) (.tmp 13) 102 102 rfl _ _ rfl rfl hcp.out ?_
  rw [HW.out]
  replace H2 := Aside0.mk ((row_far (cells := eA ⟨6, [0, 0, 0, 0, 0, 0, 0, 0, 0, 0, 255, 255, b0, b1, b2, b3]⟩) HN3.out.2).trans H2.out)
  replace H3 := Aside0.mk (row_new (cells := eA ⟨6, [0, 0, 0, 0, 0, 0, 0, 0, 0, 0, 255, 255, b0, b1, b2, b3]⟩) H3.out)
  replace HB := Aside0.mk (below_row HB.out HG3.out (eA ⟨6, [0, 0, 0, 0, 0, 0, 0, 0, 0, 0, 255, 255, b0, b1, b2, b3]⟩))
  refine hK.out _ _ (HS.out _) ?_
  clear hK K hcp HW
  (try simp only [Act.put, List.getElem_toArray, List.getElem_cons_succ, List.getElem_cons_zero, List.setIfInBounds_toArray, List.set_cons_zero, List.set_cons_succ])
  refine wpAnyH_done (by kernel_rfl) ?_ _
  generalize w4.drew.setRow g3 (eA ⟨6, [0, 0, 0, 0, 0, 0, 0, 0, 0, 0, 255, 255, b0, b1, b2, b3]⟩) = w5 at H2 H3 HB ⊢
  go_wp2_with (first
    | ((with_reducible refine gate_dst (N := 15) rfl ?_); refine wpList_load_row rfl 30 (.tmp 3) rfl g3 rfl 30 (eA ⟨6, [0, 0, 0, 0, 0, 0, 0, 0, 0, 0, 255, 255, b0, b1, b2, b3]⟩) (0, 0) _ H3.out Tryz.underlying30 rfl (infoE HM.out) ?_)
    | ((with_reducible refine gate_store (t := 30) (p := 2) rfl ?_); refine wpList_store_row rfl 30 (.tmp 2) (.tmp 15) rfl g2 (eA ⟨6, [0, 0, 0, 0, 0, 0, 0, 0, 0, 0, 255, 255, b0, b1, b2, b3]⟩) rfl rfl 30 (eA noA) H2.out (infoE HM.out) ((eA_size ok_noA).trans (eA_size HM.out).symm) (eA_one _) ?_; replace H2 := Aside0.mk (row_new (cells := eA ⟨6, [0, 0, 0, 0, 0, 0, 0, 0, 0, 0, 255, 255, b0, b1, b2, b3]⟩) H2.out); replace HB := Aside0.mk (below_row HB.out HG2.out (eA ⟨6, [0, 0, 0, 0, 0, 0, 0, 0, 0, 0, 255, 255, b0, b1, b2, b3]⟩)); generalize w5.setRow g2 (eA ⟨6, [0, 0, 0, 0, 0, 0, 0, 0, 0, 0, 255, 255, b0, b1, b2, b3]⟩) = w6 at HB H2 ⊢))
  refine bodyPost_ret (results_cell_row rfl _ _ g2 30 (eA ⟨6, [0, 0, 0, 0, 0, 0, 0, 0, 0, 0, 255, 255, b0, b1, b2, b3]⟩) (0, 0) _ rfl H2.out Tryz.underlying30 rfl (infoE HM.out)) rfl ?_
  exact ⟨rfl, HB.out⟩
theorem addr_Map (a : Ad) (ha : a.ok) (w : World) : Calls Tryz.prog 51 #[.agg (eA a)] w fun e w' => e = .returned (.agg (eA (mapA a))) ∧ Below w.heap.size w w' := by
  cases h4 : (a.fam == 4)
  · have e : mapA a = a := by unfold mapA; rw [if_neg (by simpa using h4)]
    rw [e]
    exact addr_Map_no a ha h4 w
  · obtain ⟨f, l⟩ := a
    have hf : f = 4 := by simpa using h4
    subst hf
    obtain ⟨b0, b1, b2, b3, b4, b5, b6, b7, b8, b9, b10, b11, b12, b13, b14, b15, rfl⟩ := list16 ha.1
    exact addr_Map_yes b0 b1 b2 b3 b4 b5 b6 b7 b8 b9 b10 b11 b12 b13 b14 b15 ha w
def four0 : Ad := ⟨4, zeros16⟩
theorem ok_four0 : four0.ok := ok_zeros 4
set_option maxHeartbeats 4000000 in
set_option maxRecDepth 100000 in
theorem addr_Unmap_yes (f b0 b1 b2 b3 b4 b5 b6 b7 b8 b9 b10 b11 b12 b13 b14 b15 : Int) (ha : Ad.ok ⟨f, [b0, b1, b2, b3, b4, b5, b6, b7, b8, b9, b10, b11, b12, b13, b14, b15]⟩) (he : (⟨f, [b0, b1, b2, b3, b4, b5, b6, b7, b8, b9, b10, b11, b12, b13, b14, b15]⟩ : Ad) = mapA ⟨4, [b12, b13, b14, b15, 0, 0, 0, 0, 0, 0, 0, 0, 0, 0, 0, 0]⟩) (w : World) : Calls Tryz.prog 27 #[.agg (eA ⟨f, [b0, b1, b2, b3, b4, b5, b6, b7, b8, b9, b10, b11, b12, b13, b14, b15]⟩)] w fun e w' => e = .returned (.agg (eA ⟨4, [b12, b13, b14, b15, 0, 0, 0, 0, 0, 0, 0, 0, 0, 0, 0, 0]⟩)) ∧ Below w.heap.size w w' := by
  have HB := Aside0.mk (Below.refl w.heap.size w)
  have HA := Aside0.mk ha
  have HO := Aside0.mk (show Ad.ok ⟨4, [b12, b13, b14, b15, 0, 0, 0, 0, 0, 0, 0, 0, 0, 0, 0, 0]⟩ from (show ownA ⟨f, [b0, b1, b2, b3, b4, b5, b6, b7, b8, b9, b10, b11, b12, b13, b14, b15]⟩ = ⟨4, [b12, b13, b14, b15, 0, 0, 0, 0, 0, 0, 0, 0, 0, 0, 0, 0]⟩ from rfl) ▸ ok_own ha)
  have HE := Aside0.mk (show decide ((⟨f, [b0, b1, b2, b3, b4, b5, b6, b7, b8, b9, b10, b11, b12, b13, b14, b15]⟩ : Ad) = mapA ⟨4, [b12, b13, b14, b15, 0, 0, 0, 0, 0, 0, 0, 0, 0, 0, 0, 0]⟩) = true from decide_eq_true he)
  clear ha he
  go_enter Tryz.func27, Tryz.ntmps27
  go_wp2_with (first
    | ((with_reducible refine gate_dst (N := 1) rfl ?_); refine box_event ?hg (N := 1) ?hd (cs := eA ⟨f, [b0, b1, b2, b3, b4, b5, b6, b7, b8, b9, b10, b11, b12, b13, b14, b15]⟩) (t := 30) ?hr ?_; (case hd => rfl); (case hg => rfl); (case hr => first | (go_simp; done) | (go_simp; rfl)); intro g1 hg w1 hbox hb; have H1 := Aside0.mk hbox; have HG1 := Aside0.mk (show w.heap.size ≤ g1 by rw [hg]; exact below_size (bel_later HB.out)); skip; replace HB := Aside0.mk (below_step (bel_later HB.out) hb); clear hb hg hbox)
    | ((with_reducible refine gate_dst (N := 2) rfl ?_); refine box_event ?hg (N := 2) ?hd (cs := eA noA) (t := 30) ?hr ?_; (case hd => rfl); (case hg => rfl); (case hr => first | (go_simp; done) | (go_simp; rfl)); intro g2 hg w2 hbox hb; have H2 := Aside0.mk hbox; have HG2 := Aside0.mk (show w.heap.size ≤ g2 by rw [hg]; exact below_size (bel_later HB.out)); have HN12 := Aside0.mk (show g1 ≠ g2 by rw [hg]; exact Nat.ne_of_lt (blk_lt (blk_later H1.out))); replace H1 := Aside0.mk (blk_below (blk_later H1.out) hb); replace HB := Aside0.mk (below_step (bel_later HB.out) hb); clear hb hg hbox)
    | ((with_reducible refine gate_dst (N := 4) rfl ?_); refine Kd.event_run (v := .agg (eA four0)) rfl ?hr ?_; (case hr => first | (go_simp; done) | (go_simp; rfl)))
    | ((with_reducible refine gate_dst (N := 3) rfl ?_); refine box_event ?hg (N := 3) ?hd (cs := eA noA) (t := 30) ?hr ?_; (case hd => rfl); (case hg => rfl); (case hr => first | (go_simp; done) | (go_simp; rfl)); intro g3 hg w3 hbox hb; have H3 := Aside0.mk hbox; have HG3 := Aside0.mk (show w.heap.size ≤ g3 by rw [hg]; exact below_size (bel_later HB.out)); have HN3 := Aside0.mk (show g1 ≠ g3 ∧ g2 ≠ g3 by rw [hg]; exact ⟨Nat.ne_of_lt (blk_lt (blk_later H1.out)), Nat.ne_of_lt (blk_lt (blk_later H2.out))⟩); replace H1 := Aside0.mk (blk_below (blk_later H1.out) hb); replace H2 := Aside0.mk (blk_below (blk_later H2.out) hb); replace HB := Aside0.mk (below_step (bel_later HB.out) hb); clear hb hg hbox)
    | ((with_reducible refine gate_store (t := 30) (p := 3) rfl ?_); refine wpList_store_row rfl 30 (.tmp 3) (.tmp 4) rfl g3 (eA four0) rfl rfl 30 (eA noA) H3.out (infoE ok_four0) ((eA_size ok_noA).trans (eA_size ok_four0).symm) (eA_one _) ?_; replace H1 := Aside0.mk ((row_far (cells := eA four0) HN3.out.1).trans H1.out); replace H2 := Aside0.mk ((row_far (cells := eA four0) HN3.out.2).trans H2.out); replace H3 := Aside0.mk (row_new (cells := eA four0) H3.out); replace HB := Aside0.mk (below_row HB.out HG3.out (eA four0)); generalize w3.setRow g3 (eA four0) = w4 at HB H3 H1 H2 ⊢))
  obtain ⟨S, hS⟩ : ∃ S : World → Prop, S = fun _ => True := ⟨_, rfl⟩
  have HS := Aside0.mk (show ∀ x : World, S x by intro x; rw [hS]; trivial)
  clear hS
  have s0 := HS.out w4.drew
  (try simp only [Act.put, List.getElem_toArray, List.getElem_cons_succ, List.getElem_cons_zero, List.setIfInBounds_toArray, List.set_cons_zero, List.set_cons_succ])
  refine wp_region_held_drew (S := S) (by kernel_rfl) s0 (fun _ => ?_)
  refine wpAnyH_take (i := 0) (v := .pointer (some ⟨g3, 1, none⟩)) rfl (by kernel_rfl) (by kernel_rfl) (by kernel_rfl) (fun _ _ _ h => h) (Or.inl ⟨by kernel_rfl, fun w' h => by first | (go_simp; done) | (go_simp; rfl)⟩) s0 ?_
  (try simp only [Act.put, List.getElem_toArray, List.getElem_cons_succ, List.getElem_cons_zero, List.setIfInBounds_toArray, List.set_cons_zero, List.set_cons_succ])
  refine wpAnyH_take (i := 1) (v := .slice (some ⟨g3, 1, none⟩) 4 16) rfl (by kernel_rfl) (by kernel_rfl) (by kernel_rfl) (fun _ _ _ h => h) (Or.inl ⟨by kernel_rfl, fun w' h => by first | (go_simp; done) | (go_simp; rfl)⟩) s0 ?_
  (try simp only [Act.put, List.getElem_toArray, List.getElem_cons_succ, List.getElem_cons_zero, List.setIfInBounds_toArray, List.set_cons_zero, List.set_cons_succ])
  refine wpAnyH_take (i := 2) (v := .pointer (some ⟨g1, 1, none⟩)) rfl (by kernel_rfl) (by kernel_rfl) (by kernel_rfl) (fun _ _ _ h => h) (Or.inl ⟨by kernel_rfl, fun w' h => by first | (go_simp; done) | (go_simp; rfl)⟩) s0 ?_
  (try simp only [Act.put, List.getElem_toArray, List.getElem_cons_succ, List.getElem_cons_zero, List.setIfInBounds_toArray, List.set_cons_zero, List.set_cons_succ])
  refine wpAnyH_take (i := 3) (v := .slice (some ⟨g1, 13, none⟩) 4 4) rfl (by kernel_rfl) (by kernel_rfl) (by kernel_rfl) (fun _ _ _ h => h) (Or.inl ⟨by kernel_rfl, fun w' h => by first | (go_simp; done) | (go_simp; rfl)⟩) s0 ?_
  (try simp only [Act.put, List.getElem_toArray, List.getElem_cons_succ, List.getElem_cons_zero, List.setIfInBounds_toArray, List.set_cons_zero, List.set_cons_succ])
  replace H1 := Aside0.mk (blk_later (b := w4.drew) H1.out)
  replace H2 := Aside0.mk (blk_later (b := w4.drew) H2.out)
  replace H3 := Aside0.mk (blk_later (b := w4.drew) H3.out)
  replace HB := Aside0.mk (bel_later (b := w4.drew) HB.out)
  have hcp := Aside0.mk (run_copy_row (P := Tryz.prog) w4.drew 102 102 3 5 g3 1 4 16 ⟨g1, 13, none⟩ 4 4 (eA four0) 30 ([.int .u8 b12, .int .u8 b13, .int .u8 b14, .int .u8 b15]) Tryz.underlying102 (by kernel_rfl) H3.out rfl (fun j v hv => by rw [Addr.add_mid]; exact (cell_of_row _ g1 (13 + j) (eA ⟨f, [b0, b1, b2, b3, b4, b5, b6, b7, b8, b9, b10, b11, b12, b13, b14, b15]⟩) _ (0, 0) H1.out).trans (by match j, hv with | 0, hv => exact hv | 1, hv => exact hv | 2, hv => exact hv | 3, hv => exact hv | n + 4, hv => simp at hv)) (by show 1 + 4 ≤ (eA four0).size; rw [eA_size ok_four0]; decide) (fun v hv => by simp only [List.mem_cons, List.not_mem_nil, or_false] at hv; rcases hv with rfl | rfl | rfl | rfl <;> rfl))
  have HW := Aside0.mk (show ((eA four0).toList.take 1 ++ ([.int .u8 b12, .int .u8 b13, .int .u8 b14, .int .u8 b15] : List Value) ++ (eA four0).toList.drop (1 + ([.int .u8 b12, .int .u8 b13, .int .u8 b14, .int .u8 b15] : List Value).length)).toArray = eA ⟨4, [b12, b13, b14, b15, 0, 0, 0, 0, 0, 0, 0, 0, 0, 0, 0, 0]⟩ from rfl)
  refine held_step (i := 4) (by kernel_rfl) rfl (by kernel_rfl) (fun K hK => ?_)
  refine wp_copy_runA w4.drew (.tmp 6) (.tmp 8) 102 102 rfl _ _ rfl rfl hcp.out ?_
  rw [HW.out]
  replace H1 := Aside0.mk ((row_far (cells := eA ⟨4, [b12, b13, b14, b15, 0, 0, 0, 0, 0, 0, 0, 0, 0, 0, 0, 0]⟩) HN3.out.1).trans H1.out)
  replace H2 := Aside0.mk ((row_far (cells := eA ⟨4, [b12, b13, b14, b15, 0, 0, 0, 0, 0, 0, 0, 0, 0, 0, 0, 0]⟩) HN3.out.2).trans H2.out)
  replace H3 := Aside0.mk (row_new (cells := eA ⟨4, [b12, b13, b14, b15, 0, 0, 0, 0, 0, 0, 0, 0, 0, 0, 0, 0]⟩) H3.out)
  replace HB := Aside0.mk (below_row HB.out HG3.out (eA ⟨4, [b12, b13, b14, b15, 0, 0, 0, 0, 0, 0, 0, 0, 0, 0, 0, 0]⟩))
  refine hK.out _ _ (HS.out _) ?_
  clear hK K hcp HW
  (try simp only [Act.put, List.getElem_toArray, List.getElem_cons_succ, List.getElem_cons_zero, List.setIfInBounds_toArray, List.set_cons_zero, List.set_cons_succ])
  refine wpAnyH_done (by kernel_rfl) ?_ _
  generalize w4.drew.setRow g3 (eA ⟨4, [b12, b13, b14, b15, 0, 0, 0, 0, 0, 0, 0, 0, 0, 0, 0, 0]⟩) = w5 at H1 H2 H3 HB ⊢
  go_wp2
  obtain ⟨S, hS⟩ : ∃ S : World → Prop, S = fun w' => w'.heap[g1]? = some (.cells (eA ⟨f, [b0, b1, b2, b3, b4, b5, b6, b7, b8, b9, b10, b11, b12, b13, b14, b15]⟩) 30 (0, 0)) ∧ w'.heap[g2]? = some (.cells (eA noA) 30 (0, 0)) ∧ w'.heap[g3]? = some (.cells (eA ⟨4, [b12, b13, b14, b15, 0, 0, 0, 0, 0, 0, 0, 0, 0, 0, 0, 0]⟩) 30 (0, 0)) ∧ Below w.heap.size w w' := ⟨_, rfl⟩
  have HSx := Aside0.mk (show ∀ x : World, S x → x.heap[g1]? = some (.cells (eA ⟨f, [b0, b1, b2, b3, b4, b5, b6, b7, b8, b9, b10, b11, b12, b13, b14, b15]⟩) 30 (0, 0)) ∧ x.heap[g2]? = some (.cells (eA noA) 30 (0, 0)) ∧ x.heap[g3]? = some (.cells (eA ⟨4, [b12, b13, b14, b15, 0, 0, 0, 0, 0, 0, 0, 0, 0, 0, 0, 0]⟩) 30 (0, 0)) ∧ Below w.heap.size w x by intro b h; rw [hS] at h; exact h)
  have HSt := Aside0.mk (show ∀ a b : World, S a → Below a.heap.size a b → S b by
    intro a b h hb
    rw [hS] at h ⊢
    exact ⟨blk_below h.1 hb, blk_below h.2.1 hb, blk_below h.2.2.1 hb, below_step h.2.2.2 hb⟩)
  have s0 : S w5.drew := by rw [hS]; exact ⟨blk_later H1.out, blk_later H2.out, blk_later H3.out, bel_later HB.out⟩
  clear hS
  refine wp_region_held_drew (S := S) (by kernel_rfl) s0 (fun _ => ?_)
  refine anyH_world s0 (fun w6 s5 => ?_)
  clear s0
  have s0 := s5
  clear s5
  refine wpAnyH_take (i := 0) (v := .agg (eA ⟨f, [b0, b1, b2, b3, b4, b5, b6, b7, b8, b9, b10, b11, b12, b13, b14, b15]⟩)) rfl ?py0b ?py0c ?py0d (fun _ _ _ h => h) ?py0e s0 ?py0f
  case py0b => kernel_rfl
  case py0c => kernel_rfl
  case py0d => kernel_rfl
  case py0e => exact yields_row (by kernel_rfl) 30 (.tmp 1) rfl g1 rfl 30 (eA ⟨f, [b0, b1, b2, b3, b4, b5, b6, b7, b8, b9, b10, b11, b12, b13, b14, b15]⟩) (0, 0) _ (fun w' h => (HSx.out w' h).1) Tryz.underlying30 rfl (infoE HA.out)
  (try simp only [Act.put, List.getElem_toArray, List.getElem_cons_succ, List.getElem_cons_zero, List.setIfInBounds_toArray, List.set_cons_zero, List.set_cons_succ])
  refine wpAnyH_take (i := 1) (v := .agg (eA ⟨4, [b12, b13, b14, b15, 0, 0, 0, 0, 0, 0, 0, 0, 0, 0, 0, 0]⟩)) rfl ?qy1b ?qy1c ?qy1d (fun _ _ _ h => h) ?qy1e s0 ?qy1f
  case qy1b => kernel_rfl
  case qy1c => kernel_rfl
  case qy1d => kernel_rfl
  case qy1e => exact yields_row (by kernel_rfl) 30 (.tmp 3) rfl g3 rfl 30 (eA ⟨4, [b12, b13, b14, b15, 0, 0, 0, 0, 0, 0, 0, 0, 0, 0, 0, 0]⟩) (0, 0) _ (fun w' h => (HSx.out w' h).2.2.1) Tryz.underlying30 rfl (infoE HO.out)
  (try simp only [Act.put, List.getElem_toArray, List.getElem_cons_succ, List.getElem_cons_zero, List.setIfInBounds_toArray, List.set_cons_zero, List.set_cons_succ])
  refine held_step (i := 2) (by kernel_rfl) rfl (by kernel_rfl) (fun K hK => ?_)
  go_wp2_with (go_at_call 51; refine (addr_Map ⟨4, [b12, b13, b14, b15, 0, 0, 0, 0, 0, 0, 0, 0, 0, 0, 0, 0]⟩ HO.out w6).mono ?_; rintro r w7 ⟨rfl, hb⟩; have s1 := HSt.out _ _ s0 hb; clear hb)
  refine hK.out _ _ s1 ?_
  clear hK K
  (try simp only [Act.put, List.getElem_toArray, List.getElem_cons_succ, List.getElem_cons_zero, List.setIfInBounds_toArray, List.set_cons_zero, List.set_cons_succ])
  refine wpAnyH_take (i := 3) (v := .bool true) rfl (by kernel_rfl) (by kernel_rfl) (by kernel_rfl) (fun _ _ _ h => h) (Or.inl ⟨by kernel_rfl, fun w' h => run_eql_op (r := true) rfl rfl rfl (by kernel_rfl) (by rw [show (10000 : Nat) = 9997 + 3 from rfl, eq_addr 9997 ⟨f, [b0, b1, b2, b3, b4, b5, b6, b7, b8, b9, b10, b11, b12, b13, b14, b15]⟩ (mapA ⟨4, [b12, b13, b14, b15, 0, 0, 0, 0, 0, 0, 0, 0, 0, 0, 0, 0]⟩) HA.out (ok_map HO.out) w', HE.out])⟩) s1 ?_
  (try simp only [Act.put, List.getElem_toArray, List.getElem_cons_succ, List.getElem_cons_zero, List.setIfInBounds_toArray, List.set_cons_zero, List.set_cons_succ])
  refine wpAnyH_done (by kernel_rfl) ?_ _
  replace H1 := Aside0.mk (HSx.out _ s1).1
  replace H2 := Aside0.mk (HSx.out _ s1).2.1
  replace H3 := Aside0.mk (HSx.out _ s1).2.2.1
  replace HB := Aside0.mk (HSx.out _ s1).2.2.2
  clear s0 s1
  go_wp2_with (first
    | ((with_reducible refine gate_dst (N := 14) rfl ?_); refine wpList_load_row rfl 30 (.tmp 3) rfl g3 rfl 30 (eA ⟨4, [b12, b13, b14, b15, 0, 0, 0, 0, 0, 0, 0, 0, 0, 0, 0, 0]⟩) (0, 0) _ H3.out Tryz.underlying30 rfl (infoE HO.out) ?_)
    | ((with_reducible refine gate_store (t := 30) (p := 2) rfl ?_); refine wpList_store_row rfl 30 (.tmp 2) (.tmp 14) rfl g2 (eA ⟨4, [b12, b13, b14, b15, 0, 0, 0, 0, 0, 0, 0, 0, 0, 0, 0, 0]⟩) rfl rfl 30 (eA noA) H2.out (infoE HO.out) ((eA_size ok_noA).trans (eA_size HO.out).symm) (eA_one _) ?_; replace H2 := Aside0.mk (row_new (cells := eA ⟨4, [b12, b13, b14, b15, 0, 0, 0, 0, 0, 0, 0, 0, 0, 0, 0, 0]⟩) H2.out); replace HB := Aside0.mk (below_row HB.out HG2.out (eA ⟨4, [b12, b13, b14, b15, 0, 0, 0, 0, 0, 0, 0, 0, 0, 0, 0, 0]⟩)); generalize w7.setRow g2 (eA ⟨4, [b12, b13, b14, b15, 0, 0, 0, 0, 0, 0, 0, 0, 0, 0, 0, 0]⟩) = w8 at HB H2 ⊢))
  refine bodyPost_ret (results_cell_row rfl _ _ g2 30 (eA ⟨4, [b12, b13, b14, b15, 0, 0, 0, 0, 0, 0, 0, 0, 0, 0, 0, 0]⟩) (0, 0) _ rfl H2.out Tryz.underlying30 rfl (infoE HO.out)) rfl ?_
  exact ⟨rfl, HB.out⟩
set_option maxHeartbeats 4000000 in
set_option maxRecDepth 100000 in
theorem addr_Unmap_no (f b0 b1 b2 b3 b4 b5 b6 b7 b8 b9 b10 b11 b12 b13 b14 b15 : Int) (ha : Ad.ok ⟨f, [b0, b1, b2, b3, b4, b5, b6, b7, b8, b9, b10, b11, b12, b13, b14, b15]⟩) (he : (⟨f, [b0, b1, b2, b3, b4, b5, b6, b7, b8, b9, b10, b11, b12, b13, b14, b15]⟩ : Ad) ≠ mapA ⟨4, [b12, b13, b14, b15, 0, 0, 0, 0, 0, 0, 0, 0, 0, 0, 0, 0]⟩) (w : World) : Calls Tryz.prog 27 #[.agg (eA ⟨f, [b0, b1, b2, b3, b4, b5, b6, b7, b8, b9, b10, b11, b12, b13, b14, b15]⟩)] w fun e w' => e = .returned (.agg (eA ⟨f, [b0, b1, b2, b3, b4, b5, b6, b7, b8, b9, b10, b11, b12, b13, b14, b15]⟩)) ∧ Below w.heap.size w w' := by
  have HB := Aside0.mk (Below.refl w.heap.size w)
  have HA := Aside0.mk ha
  have HO := Aside0.mk (show Ad.ok ⟨4, [b12, b13, b14, b15, 0, 0, 0, 0, 0, 0, 0, 0, 0, 0, 0, 0]⟩ from (show ownA ⟨f, [b0, b1, b2, b3, b4, b5, b6, b7, b8, b9, b10, b11, b12, b13, b14, b15]⟩ = ⟨4, [b12, b13, b14, b15, 0, 0, 0, 0, 0, 0, 0, 0, 0, 0, 0, 0]⟩ from rfl) ▸ ok_own ha)
  have HE := Aside0.mk (show decide ((⟨f, [b0, b1, b2, b3, b4, b5, b6, b7, b8, b9, b10, b11, b12, b13, b14, b15]⟩ : Ad) = mapA ⟨4, [b12, b13, b14, b15, 0, 0, 0, 0, 0, 0, 0, 0, 0, 0, 0, 0]⟩) = false from decide_eq_false he)
  clear ha he
  go_enter Tryz.func27, Tryz.ntmps27
  go_wp2_with (first
    | ((with_reducible refine gate_dst (N := 1) rfl ?_); refine box_event ?hg (N := 1) ?hd (cs := eA ⟨f, [b0, b1, b2, b3, b4, b5, b6, b7, b8, b9, b10, b11, b12, b13, b14, b15]⟩) (t := 30) ?hr ?_; (case hd => rfl); (case hg => rfl); (case hr => first | (go_simp; done) | (go_simp; rfl)); intro g1 hg w1 hbox hb; have H1 := Aside0.mk hbox; have HG1 := Aside0.mk (show w.heap.size ≤ g1 by rw [hg]; exact below_size (bel_later HB.out)); skip; replace HB := Aside0.mk (below_step (bel_later HB.out) hb); clear hb hg hbox)
    | ((with_reducible refine gate_dst (N := 2) rfl ?_); refine box_event ?hg (N := 2) ?hd (cs := eA noA) (t := 30) ?hr ?_; (case hd => rfl); (case hg => rfl); (case hr => first | (go_simp; done) | (go_simp; rfl)); intro g2 hg w2 hbox hb; have H2 := Aside0.mk hbox; have HG2 := Aside0.mk (show w.heap.size ≤ g2 by rw [hg]; exact below_size (bel_later HB.out)); have HN12 := Aside0.mk (show g1 ≠ g2 by rw [hg]; exact Nat.ne_of_lt (blk_lt (blk_later H1.out))); replace H1 := Aside0.mk (blk_below (blk_later H1.out) hb); replace HB := Aside0.mk (below_step (bel_later HB.out) hb); clear hb hg hbox)
    | ((with_reducible refine gate_dst (N := 4) rfl ?_); refine Kd.event_run (v := .agg (eA four0)) rfl ?hr ?_; (case hr => first | (go_simp; done) | (go_simp; rfl)))
    | ((with_reducible refine gate_dst (N := 3) rfl ?_); refine box_event ?hg (N := 3) ?hd (cs := eA noA) (t := 30) ?hr ?_; (case hd => rfl); (case hg => rfl); (case hr => first | (go_simp; done) | (go_simp; rfl)); intro g3 hg w3 hbox hb; have H3 := Aside0.mk hbox; have HG3 := Aside0.mk (show w.heap.size ≤ g3 by rw [hg]; exact below_size (bel_later HB.out)); have HN3 := Aside0.mk (show g1 ≠ g3 ∧ g2 ≠ g3 by rw [hg]; exact ⟨Nat.ne_of_lt (blk_lt (blk_later H1.out)), Nat.ne_of_lt (blk_lt (blk_later H2.out))⟩); replace H1 := Aside0.mk (blk_below (blk_later H1.out) hb); replace H2 := Aside0.mk (blk_below (blk_later H2.out) hb); replace HB := Aside0.mk (below_step (bel_later HB.out) hb); clear hb hg hbox)
    | ((with_reducible refine gate_store (t := 30) (p := 3) rfl ?_); refine wpList_store_row rfl 30 (.tmp 3) (.tmp 4) rfl g3 (eA four0) rfl rfl 30 (eA noA) H3.out (infoE ok_four0) ((eA_size ok_noA).trans (eA_size ok_four0).symm) (eA_one _) ?_; replace H1 := Aside0.mk ((row_far (cells := eA four0) HN3.out.1).trans H1.out); replace H2 := Aside0.mk ((row_far (cells := eA four0) HN3.out.2).trans H2.out); replace H3 := Aside0.mk (row_new (cells := eA four0) H3.out); replace HB := Aside0.mk (below_row HB.out HG3.out (eA four0)); generalize w3.setRow g3 (eA four0) = w4 at HB H3 H1 H2 ⊢))
  obtain ⟨S, hS⟩ : ∃ S : World → Prop, S = fun _ => True := ⟨_, rfl⟩
  have HS := Aside0.mk (show ∀ x : World, S x by intro x; rw [hS]; trivial)
  clear hS
  have s0 := HS.out w4.drew
  (try simp only [Act.put, List.getElem_toArray, List.getElem_cons_succ, List.getElem_cons_zero, List.setIfInBounds_toArray, List.set_cons_zero, List.set_cons_succ])
  refine wp_region_held_drew (S := S) (by kernel_rfl) s0 (fun _ => ?_)
  refine wpAnyH_take (i := 0) (v := .pointer (some ⟨g3, 1, none⟩)) rfl (by kernel_rfl) (by kernel_rfl) (by kernel_rfl) (fun _ _ _ h => h) (Or.inl ⟨by kernel_rfl, fun w' h => by first | (go_simp; done) | (go_simp; rfl)⟩) s0 ?_
  (try simp only [Act.put, List.getElem_toArray, List.getElem_cons_succ, List.getElem_cons_zero, List.setIfInBounds_toArray, List.set_cons_zero, List.set_cons_succ])
  refine wpAnyH_take (i := 1) (v := .slice (some ⟨g3, 1, none⟩) 4 16) rfl (by kernel_rfl) (by kernel_rfl) (by kernel_rfl) (fun _ _ _ h => h) (Or.inl ⟨by kernel_rfl, fun w' h => by first | (go_simp; done) | (go_simp; rfl)⟩) s0 ?_
  (try simp only [Act.put, List.getElem_toArray, List.getElem_cons_succ, List.getElem_cons_zero, List.setIfInBounds_toArray, List.set_cons_zero, List.set_cons_succ])
  refine wpAnyH_take (i := 2) (v := .pointer (some ⟨g1, 1, none⟩)) rfl (by kernel_rfl) (by kernel_rfl) (by kernel_rfl) (fun _ _ _ h => h) (Or.inl ⟨by kernel_rfl, fun w' h => by first | (go_simp; done) | (go_simp; rfl)⟩) s0 ?_
  (try simp only [Act.put, List.getElem_toArray, List.getElem_cons_succ, List.getElem_cons_zero, List.setIfInBounds_toArray, List.set_cons_zero, List.set_cons_succ])
  refine wpAnyH_take (i := 3) (v := .slice (some ⟨g1, 13, none⟩) 4 4) rfl (by kernel_rfl) (by kernel_rfl) (by kernel_rfl) (fun _ _ _ h => h) (Or.inl ⟨by kernel_rfl, fun w' h => by first | (go_simp; done) | (go_simp; rfl)⟩) s0 ?_
  (try simp only [Act.put, List.getElem_toArray, List.getElem_cons_succ, List.getElem_cons_zero, List.setIfInBounds_toArray, List.set_cons_zero, List.set_cons_succ])
  replace H1 := Aside0.mk (blk_later (b := w4.drew) H1.out)
  replace H2 := Aside0.mk (blk_later (b := w4.drew) H2.out)
  replace H3 := Aside0.mk (blk_later (b := w4.drew) H3.out)
  replace HB := Aside0.mk (bel_later (b := w4.drew) HB.out)
  have hcp := Aside0.mk (run_copy_row (P := Tryz.prog) w4.drew 102 102 3 5 g3 1 4 16 ⟨g1, 13, none⟩ 4 4 (eA four0) 30 ([.int .u8 b12, .int .u8 b13, .int .u8 b14, .int .u8 b15]) Tryz.underlying102 (by kernel_rfl) H3.out rfl (fun j v hv => by rw [Addr.add_mid]; exact (cell_of_row _ g1 (13 + j) (eA ⟨f, [b0, b1, b2, b3, b4, b5, b6, b7, b8, b9, b10, b11, b12, b13, b14, b15]⟩) _ (0, 0) H1.out).trans (by match j, hv with | 0, hv => exact hv | 1, hv => exact hv | 2, hv => exact hv | 3, hv => exact hv | n + 4, hv => simp at hv)) (by show 1 + 4 ≤ (eA four0).size; rw [eA_size ok_four0]; decide) (fun v hv => by simp only [List.mem_cons, List.not_mem_nil, or_false] at hv; rcases hv with rfl | rfl | rfl | rfl <;> rfl))
  have HW := Aside0.mk (show ((eA four0).toList.take 1 ++ ([.int .u8 b12, .int .u8 b13, .int .u8 b14, .int .u8 b15] : List Value) ++ (eA four0).toList.drop (1 + ([.int .u8 b12, .int .u8 b13, .int .u8 b14, .int .u8 b15] : List Value).length)).toArray = eA ⟨4, [b12, b13, b14, b15, 0, 0, 0, 0, 0, 0, 0, 0, 0, 0, 0, 0]⟩ from rfl)
  refine held_step (i := 4) (by kernel_rfl) rfl (by kernel_rfl) (fun K hK => ?_)
  refine wp_copy_runA w4.drew (.tmp 6) (.tmp 8) 102 102 rfl _ _ rfl rfl hcp.out ?_
  rw [HW.out]
  replace H1 := Aside0.mk ((row_far (cells := eA ⟨4, [b12, b13, b14, b15, 0, 0, 0, 0, 0, 0, 0, 0, 0, 0, 0, 0]⟩) HN3.out.1).trans H1.out)
  replace H2 := Aside0.mk ((row_far (cells := eA ⟨4, [b12, b13, b14, b15, 0, 0, 0, 0, 0, 0, 0, 0, 0, 0, 0, 0]⟩) HN3.out.2).trans H2.out)
  replace H3 := Aside0.mk (row_new (cells := eA ⟨4, [b12, b13, b14, b15, 0, 0, 0, 0, 0, 0, 0, 0, 0, 0, 0, 0]⟩) H3.out)
  replace HB := Aside0.mk (below_row HB.out HG3.out (eA ⟨4, [b12, b13, b14, b15, 0, 0, 0, 0, 0, 0, 0, 0, 0, 0, 0, 0]⟩))
  refine hK.out _ _ (HS.out _) ?_
  clear hK K hcp HW
  (try simp only [Act.put, List.getElem_toArray, List.getElem_cons_succ, List.getElem_cons_zero, List.setIfInBounds_toArray, List.set_cons_zero, List.set_cons_succ])
  refine wpAnyH_done (by kernel_rfl) ?_ _
  generalize w4.drew.setRow g3 (eA ⟨4, [b12, b13, b14, b15, 0, 0, 0, 0, 0, 0, 0, 0, 0, 0, 0, 0]⟩) = w5 at H1 H2 H3 HB ⊢
  go_wp2
  obtain ⟨S, hS⟩ : ∃ S : World → Prop, S = fun w' => w'.heap[g1]? = some (.cells (eA ⟨f, [b0, b1, b2, b3, b4, b5, b6, b7, b8, b9, b10, b11, b12, b13, b14, b15]⟩) 30 (0, 0)) ∧ w'.heap[g2]? = some (.cells (eA noA) 30 (0, 0)) ∧ w'.heap[g3]? = some (.cells (eA ⟨4, [b12, b13, b14, b15, 0, 0, 0, 0, 0, 0, 0, 0, 0, 0, 0, 0]⟩) 30 (0, 0)) ∧ Below w.heap.size w w' := ⟨_, rfl⟩
  have HSx := Aside0.mk (show ∀ x : World, S x → x.heap[g1]? = some (.cells (eA ⟨f, [b0, b1, b2, b3, b4, b5, b6, b7, b8, b9, b10, b11, b12, b13, b14, b15]⟩) 30 (0, 0)) ∧ x.heap[g2]? = some (.cells (eA noA) 30 (0, 0)) ∧ x.heap[g3]? = some (.cells (eA ⟨4, [b12, b13, b14, b15, 0, 0, 0, 0, 0, 0, 0, 0, 0, 0, 0, 0]⟩) 30 (0, 0)) ∧ Below w.heap.size w x by intro b h; rw [hS] at h; exact h)
  have HSt := Aside0.mk (show ∀ a b : World, S a → Below a.heap.size a b → S b by
    intro a b h hb
    rw [hS] at h ⊢
    exact ⟨blk_below h.1 hb, blk_below h.2.1 hb, blk_below h.2.2.1 hb, below_step h.2.2.2 hb⟩)
  have s0 : S w5.drew := by rw [hS]; exact ⟨blk_later H1.out, blk_later H2.out, blk_later H3.out, bel_later HB.out⟩
  clear hS
  refine wp_region_held_drew (S := S) (by kernel_rfl) s0 (fun _ => ?_)
  refine anyH_world s0 (fun w6 s5 => ?_)
  clear s0
  have s0 := s5
  clear s5
  refine wpAnyH_take (i := 0) (v := .agg (eA ⟨f, [b0, b1, b2, b3, b4, b5, b6, b7, b8, b9, b10, b11, b12, b13, b14, b15]⟩)) rfl ?pn0b ?pn0c ?pn0d (fun _ _ _ h => h) ?pn0e s0 ?pn0f
  case pn0b => kernel_rfl
  case pn0c => kernel_rfl
  case pn0d => kernel_rfl
  case pn0e => exact yields_row (by kernel_rfl) 30 (.tmp 1) rfl g1 rfl 30 (eA ⟨f, [b0, b1, b2, b3, b4, b5, b6, b7, b8, b9, b10, b11, b12, b13, b14, b15]⟩) (0, 0) _ (fun w' h => (HSx.out w' h).1) Tryz.underlying30 rfl (infoE HA.out)
  (try simp only [Act.put, List.getElem_toArray, List.getElem_cons_succ, List.getElem_cons_zero, List.setIfInBounds_toArray, List.set_cons_zero, List.set_cons_succ])
  refine wpAnyH_take (i := 1) (v := .agg (eA ⟨4, [b12, b13, b14, b15, 0, 0, 0, 0, 0, 0, 0, 0, 0, 0, 0, 0]⟩)) rfl ?qn1b ?qn1c ?qn1d (fun _ _ _ h => h) ?qn1e s0 ?qn1f
  case qn1b => kernel_rfl
  case qn1c => kernel_rfl
  case qn1d => kernel_rfl
  case qn1e => exact yields_row (by kernel_rfl) 30 (.tmp 3) rfl g3 rfl 30 (eA ⟨4, [b12, b13, b14, b15, 0, 0, 0, 0, 0, 0, 0, 0, 0, 0, 0, 0]⟩) (0, 0) _ (fun w' h => (HSx.out w' h).2.2.1) Tryz.underlying30 rfl (infoE HO.out)
  (try simp only [Act.put, List.getElem_toArray, List.getElem_cons_succ, List.getElem_cons_zero, List.setIfInBounds_toArray, List.set_cons_zero, List.set_cons_succ])
  refine held_step (i := 2) (by kernel_rfl) rfl (by kernel_rfl) (fun K hK => ?_)
  go_wp2_with (go_at_call 51; refine (addr_Map ⟨4, [b12, b13, b14, b15, 0, 0, 0, 0, 0, 0, 0, 0, 0, 0, 0, 0]⟩ HO.out w6).mono ?_; rintro r w7 ⟨rfl, hb⟩; have s1 := HSt.out _ _ s0 hb; clear hb)
  refine hK.out _ _ s1 ?_
  clear hK K
  (try simp only [Act.put, List.getElem_toArray, List.getElem_cons_succ, List.getElem_cons_zero, List.setIfInBounds_toArray, List.set_cons_zero, List.set_cons_succ])
  refine wpAnyH_take (i := 3) (v := .bool false) rfl (by kernel_rfl) (by kernel_rfl) (by kernel_rfl) (fun _ _ _ h => h) (Or.inl ⟨by kernel_rfl, fun w' h => run_eql_op (r := false) rfl rfl rfl (by kernel_rfl) (by rw [show (10000 : Nat) = 9997 + 3 from rfl, eq_addr 9997 ⟨f, [b0, b1, b2, b3, b4, b5, b6, b7, b8, b9, b10, b11, b12, b13, b14, b15]⟩ (mapA ⟨4, [b12, b13, b14, b15, 0, 0, 0, 0, 0, 0, 0, 0, 0, 0, 0, 0]⟩) HA.out (ok_map HO.out) w', HE.out])⟩) s1 ?_
  (try simp only [Act.put, List.getElem_toArray, List.getElem_cons_succ, List.getElem_cons_zero, List.setIfInBounds_toArray, List.set_cons_zero, List.set_cons_succ])
  refine wpAnyH_done (by kernel_rfl) ?_ _
  replace H1 := Aside0.mk (HSx.out _ s1).1
  replace H2 := Aside0.mk (HSx.out _ s1).2.1
  replace H3 := Aside0.mk (HSx.out _ s1).2.2.1
  replace HB := Aside0.mk (HSx.out _ s1).2.2.2
  clear s0 s1
  go_wp2_with (first
    | ((with_reducible refine gate_dst (N := 15) rfl ?_); refine wpList_load_row rfl 30 (.tmp 1) rfl g1 rfl 30 (eA ⟨f, [b0, b1, b2, b3, b4, b5, b6, b7, b8, b9, b10, b11, b12, b13, b14, b15]⟩) (0, 0) _ H1.out Tryz.underlying30 rfl (infoE HA.out) ?_)
    | ((with_reducible refine gate_store (t := 30) (p := 2) rfl ?_); refine wpList_store_row rfl 30 (.tmp 2) (.tmp 15) rfl g2 (eA ⟨f, [b0, b1, b2, b3, b4, b5, b6, b7, b8, b9, b10, b11, b12, b13, b14, b15]⟩) rfl rfl 30 (eA noA) H2.out (infoE HA.out) ((eA_size ok_noA).trans (eA_size HA.out).symm) (eA_one _) ?_; replace H2 := Aside0.mk (row_new (cells := eA ⟨f, [b0, b1, b2, b3, b4, b5, b6, b7, b8, b9, b10, b11, b12, b13, b14, b15]⟩) H2.out); replace HB := Aside0.mk (below_row HB.out HG2.out (eA ⟨f, [b0, b1, b2, b3, b4, b5, b6, b7, b8, b9, b10, b11, b12, b13, b14, b15]⟩)); generalize w7.setRow g2 (eA ⟨f, [b0, b1, b2, b3, b4, b5, b6, b7, b8, b9, b10, b11, b12, b13, b14, b15]⟩) = w8 at HB H2 ⊢))
  refine bodyPost_ret (results_cell_row rfl _ _ g2 30 (eA ⟨f, [b0, b1, b2, b3, b4, b5, b6, b7, b8, b9, b10, b11, b12, b13, b14, b15]⟩) (0, 0) _ rfl H2.out Tryz.underlying30 rfl (infoE HA.out)) rfl ?_
  exact ⟨rfl, HB.out⟩
theorem addr_Unmap (a : Ad) (ha : a.ok) (w : World) : Calls Tryz.prog 27 #[.agg (eA a)] w fun e w' => e = .returned (.agg (eA (unmapA a))) ∧ Below w.heap.size w w' := by
  obtain ⟨f, l⟩ := a
  obtain ⟨b0, b1, b2, b3, b4, b5, b6, b7, b8, b9, b10, b11, b12, b13, b14, b15, rfl⟩ := list16 ha.1
  by_cases he : (⟨f, [b0, b1, b2, b3, b4, b5, b6, b7, b8, b9, b10, b11, b12, b13, b14, b15]⟩ : Ad) = mapA (ownA ⟨f, [b0, b1, b2, b3, b4, b5, b6, b7, b8, b9, b10, b11, b12, b13, b14, b15]⟩)
  · rw [show unmapA ⟨f, [b0, b1, b2, b3, b4, b5, b6, b7, b8, b9, b10, b11, b12, b13, b14, b15]⟩ = ownA ⟨f, [b0, b1, b2, b3, b4, b5, b6, b7, b8, b9, b10, b11, b12, b13, b14, b15]⟩ by unfold unmapA; rw [if_pos he]]
    exact addr_Unmap_yes f b0 b1 b2 b3 b4 b5 b6 b7 b8 b9 b10 b11 b12 b13 b14 b15 ha he w
  · rw [show unmapA ⟨f, [b0, b1, b2, b3, b4, b5, b6, b7, b8, b9, b10, b11, b12, b13, b14, b15]⟩ = ⟨f, [b0, b1, b2, b3, b4, b5, b6, b7, b8, b9, b10, b11, b12, b13, b14, b15]⟩ by unfold unmapA; rw [if_neg he]]
    exact addr_Unmap_no f b0 b1 b2 b3 b4 b5 b6 b7 b8 b9 b10 b11 b12 b13 b14 b15 ha he w
end Go.Proofs.YthdognlkacjkhaaGreatDoor.P
