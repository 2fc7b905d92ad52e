/-
  Law SpaceSame.
-/
import Derived.Test.YtjilnigmbnmlfaaDoorSpaQ
namespace Go.Proofs.YtjilnigmbnmlfaaDoor.P
open Go.RowKit Go.Proofs.YtjilnigmbnmlfaaDoorW.PrintWords Go.Proofs.YtjilnigmbnmlfaaDoorW.PrintLast Go.Proofs.YtjilnigmbnmlfaaDoorW.PrintMore
set_option linter.unusedVariables false
set_option linter.unusedSimpArgs false
theorem same_sp (l : List En) (n : Int) (h0 : 0 ≤ n) (h1 : n < 4294967296) : spOf l (mapA (of4 n)) = spOf l (of4 n) := by
  unfold spOf
  have hm : mayA (of4 n) = true := by rw [mayA_four (of4 n) (ok_of4 n) rfl, four_of4 n h0 h1]; exact decide_eq_true rfl
  rw [unmap_map (ok_of4 n) rfl hm, unmap_four rfl]
set_option maxHeartbeats 8000000 in
set_option maxRecDepth 100000 in
theorem law_Same (A : Option Addr) (n cap : Nat) (L : List En) (num : Int) (h0 : 0 ≤ num) (h1 : num < 4294967296) (w : World) (hmx : MaxIs w) (hrd : RdT w A n cap L) :
    Calls Tryd.prog 3 #[.slice A n cap, .int .u32 num] w fun r w' => r = .returned (.bool true) ∧ Below w.heap.size w w' := by
  have HB := Aside0.mk (Below.refl w.heap.size w)
  have HMX := Aside0.mk hmx
  have HRD := Aside0.mk hrd
  have H01 := Aside0.mk (And.intro h0 h1)
  have HALL := Aside0.mk (show ∀ e ∈ L, e.p.a.ok from fun x hx => by
    obtain ⟨i, hi⟩ := List.getElem?_of_mem hx
    obtain ⟨_, _, _, _, h⟩ := hrd.at_ i x hi
    exact h)
  clear hmx hrd h0 h1
  by_cases h12 : 12 < n
  · have e0n : decide (12 < n) = true := decide_eq_true h12
    have e0 : decide ((12 : Int) < (n : Int)) = true := decide_eq_true (by omega)
    obtain ⟨a, rfl⟩ := HRD.out.form (by omega)
    have c12n : 12 ≤ cap := by have := HRD.out.le; omega
    have c12 : (12 : Int) ≤ (cap : Int) := by omega
    have c12d : decide ((12 : Int) ≤ (cap : Int)) = true := decide_eq_true c12
    have HRL := Aside0.mk (show RdT w (some a) 12 cap (L.take 12) from rdT_take HRD.out 12 (by omega))
    have HLL := Aside0.mk (show 12 ≤ 900 by decide)
    have HFL := Aside0.mk (fine_newS (L.take 12) (fun x hx => HALL.out x (List.mem_of_mem_take hx)))
    have HLN := Aside0.mk (show (newS (L.take 12)).length ≤ 1000 by have h1 := HFL.out.len; have h2 := HRL.out.len; have h3 := HLL.out; omega)
    obtain ⟨s, hs⟩ : ∃ s, spOf (newS (L.take 12)) (of4 num) = s := ⟨_, rfl⟩
    obtain ⟨l, hl⟩ : ∃ l, newS (L.take 12) = l := ⟨_, rfl⟩
    rw [hl] at HFL HLN hs
    have HOF := Aside0.mk (fun (M T base : Nat) (sv : Value) (w : World) (hm : Mp w M T base ((0 : Nat) : Int) sv l) => map_Of M T base 0 sv l (of4 num) (ok_of4 _) w hm HFL.out.sorted HLN.out (by decide))
    have HOM := Aside0.mk (fun (M T base : Nat) (st : Nat) (sv : Value) (w : World) (hm : Mp w M T base (st : Int) sv l) (hst : st ≤ 1000000) => map_Of M T base st sv l (mapA (of4 num)) (ok_map (ok_of4 _)) w hm HFL.out.sorted HLN.out hst)
    rw [hs] at HOF
    rw [same_sp l num H01.out.1 H01.out.2, hs] at HOM
    have HL := Aside0.mk hl
    clear hs hl
    go_enter Tryd.func3, Tryd.ntmps3
    go_wp2_with (first
      | (go_at_call 7; refine (space_New (some a) 12 cap (L.take 12) _ HRL.out HLL.out).mono ?_; rintro r w1 ⟨M, sv, rfl, hz, hm, hb⟩; rw [HL.out] at hm; have HM := Aside0.mk hm; have HZ := Aside0.mk hz; replace HB := Aside0.mk (below_step HB.out hb); clear hm hb hz)
      | (go_at_call 8; refine (ref04_Of4 num _).mono ?_; rintro r w2 ⟨rfl, hb⟩; replace HM := Aside0.mk (mp_below HM.out hb); replace HB := Aside0.mk (below_step HB.out hb); clear hb)
      | ((with_reducible refine gate_dst (N := 6) rfl ?_); refine box_event ?hg (N := 6) ?hd (cs := eA noA) (t := 28) ?hr ?_; (case hd => rfl); (case hg => rfl); (case hr => first | (go_simp; done) | (go_simp; rfl)); intro k6 hg y2 hbox hb; have H6 := Aside0.mk hbox; have HG6 := Aside0.mk (show w.heap.size ≤ k6 by rw [hg]; exact HB.out.size); have HNM := Aside0.mk (show M ≠ k6 ∧ k6 ≠ w.heap.size by have h1 := (Array.getElem?_eq_some_iff.1 HM.out.blk).1; have h2 := (Array.getElem?_eq_some_iff.1 HM.out.tb.blk).1; omega); have HF6 := Aside0.mk (own_fresh HM.out.tb.row (Nat.le_of_eq hg.symm)); replace HM := Aside0.mk (mp_below HM.out hb); replace HB := Aside0.mk (below_step HB.out hb); clear hb hg hbox)
      | ((with_reducible refine gate_store (t := 28) (p := 6) rfl ?_); refine wpList_store_row rfl 28 (.tmp 6) (.tmp 17) rfl k6 (eA (of4 num)) rfl rfl 28 (eA noA) H6.out (infoE (ok_of4 num)) ((eA_size ok_noA).trans (eA_size (ok_of4 num)).symm) (eA_one _) ?_; replace H6 := Aside0.mk (row_new (cells := eA (of4 num)) H6.out); replace HM := Aside0.mk (mp_row HM.out HNM.out.1 HNM.out.2 HF6.out (eA (of4 num))); replace HB := Aside0.mk (below_row HB.out HG6.out (eA (of4 num))); generalize y2.setRow k6 (eA (of4 num)) = y3 at H6 HM HB ⊢))
    obtain ⟨S, hS⟩ : ∃ S : World → Prop, S = fun w' => w'.heap[k6]? = some (.cells (eA (of4 num)) 28 (0, 0)) := ⟨_, rfl⟩
    have HSx := Aside0.mk (show ∀ x : World, S x → x.heap[k6]? = some (.cells (eA (of4 num)) 28 (0, 0)) by intro b h; rw [hS] at h; exact h)
    have HSi := Aside0.mk (show ∀ x : World, x.heap[k6]? = some (.cells (eA (of4 num)) 28 (0, 0)) → S x by intro b h; rw [hS]; exact h)
    have s0 : S y3.drew := HSi.out _ H6.out
    replace HB := Aside0.mk (bdrew HB.out)
    replace HM := Aside0.mk (mp_below HM.out (bdrew (Below.refl _ _)))
    clear hS
    refine wp_region_held_drew (S := S) (by kernel_rfl) s0 (fun _ => ?_)
    generalize y3.drew = y0 at s0 HB HM ⊢
    (try simp only [Act.put, List.getElem_toArray, List.getElem_cons_succ, List.getElem_cons_zero, List.setIfInBounds_toArray, List.set_cons_zero, List.set_cons_succ])
    refine wpAnyH_take (i := 0) (v := .pointer (some ⟨M, 0, none⟩)) rfl (by kernel_rfl) (by kernel_rfl) (by kernel_rfl) (fun _ _ _ h => h) (Or.inl ⟨by kernel_rfl, fun w' h => by first | (go_simp; done) | (go_simp; rfl)⟩) s0 ?_
    (try simp only [Act.put, List.getElem_toArray, List.getElem_cons_succ, List.getElem_cons_zero, List.setIfInBounds_toArray, List.set_cons_zero, List.set_cons_succ])
    refine wpAnyH_take (i := 1) (v := .agg (eA (of4 num))) rfl (by kernel_rfl) (by kernel_rfl) (by kernel_rfl) (fun _ _ _ h => h) (yields_row (by kernel_rfl) 28 (.tmp 6) rfl k6 rfl 28 (eA (of4 num)) (0, 0) _ (fun w' h => (HSx.out w' h)) Tryd.underlying28 rfl (infoE (ok_of4 num))) s0 ?_
    (try simp only [Act.put, List.getElem_toArray, List.getElem_cons_succ, List.getElem_cons_zero, List.setIfInBounds_toArray, List.set_cons_zero, List.set_cons_succ])
    refine wpAnyH_take (i := 3) (v := .pointer (some ⟨M, 0, none⟩)) rfl (by kernel_rfl) (by kernel_rfl) (by kernel_rfl) (fun _ _ _ h => h) (Or.inl ⟨by kernel_rfl, fun w' h => by first | (go_simp; done) | (go_simp; rfl)⟩) s0 ?_
    (try simp only [Act.put, List.getElem_toArray, List.getElem_cons_succ, List.getElem_cons_zero, List.setIfInBounds_toArray, List.set_cons_zero, List.set_cons_succ])
    refine wpAnyH_take (i := 4) (v := .agg (eA (of4 num))) rfl (by kernel_rfl) (by kernel_rfl) (by kernel_rfl) (fun _ _ _ h => h) (yields_row (by kernel_rfl) 28 (.tmp 6) rfl k6 rfl 28 (eA (of4 num)) (0, 0) _ (fun w' h => (HSx.out w' h)) Tryd.underlying28 rfl (infoE (ok_of4 num))) s0 ?_
    (try simp only [Act.put, List.getElem_toArray, List.getElem_cons_succ, List.getElem_cons_zero, List.setIfInBounds_toArray, List.set_cons_zero, List.set_cons_succ])
    refine held_step (i := 2) (by kernel_rfl) rfl (by kernel_rfl) (fun K hK => ?_)
    go_wp2_with (go_at_call 9; refine (HOF.out _ _ _ sv _ HM.out).mono ?_; rintro r y1 ⟨rfl, m1, hm1, htk⟩; have s1 := HSi.out _ (ticks_blk htk (HSx.out _ s0) HNM.out.2); replace HM := Aside0.mk (mp_ticks HM.out htk); replace HB := Aside0.mk (ticks_new HB.out htk (Nat.le_refl _) (Nat.le_refl _)); have HST := Aside0.mk (show 0 + m1 ≤ 1000000 by have := blen_le l.length; have := HLN.out; omega); clear htk hm1)
    refine hK.out _ _ s1 ?_
    clear hK K s0
    (try simp only [Act.put, List.getElem_toArray, List.getElem_cons_succ, List.getElem_cons_zero, List.setIfInBounds_toArray, List.set_cons_zero, List.set_cons_succ])
    refine held_step (i := 5) (by kernel_rfl) rfl (by kernel_rfl) (fun K hK => ?_)
    go_wp2_with (go_at_call 10; refine (ref04_Map4 num H01.out.1 H01.out.2 _).mono ?_; rintro r y2 ⟨rfl, hb⟩; have s2 := HSi.out _ (blk_below (HSx.out _ s1) hb); replace HM := Aside0.mk (mp_below HM.out hb); replace HB := Aside0.mk (below_step HB.out hb); clear hb)
    refine hK.out _ _ s2 ?_
    clear hK K s1
    (try simp only [Act.put, List.getElem_toArray, List.getElem_cons_succ, List.getElem_cons_zero, List.setIfInBounds_toArray, List.set_cons_zero, List.set_cons_succ])
    refine held_step (i := 6) (by kernel_rfl) rfl (by kernel_rfl) (fun K hK => ?_)
    go_wp2_with (go_at_call 9; refine (HOM.out _ _ _ (0 + m1) sv _ HM.out HST.out).mono ?_; rintro r y4 ⟨rfl, m2, hm2, htk⟩; have s4 := HSi.out _ (ticks_blk htk (HSx.out _ s2) HNM.out.2); replace HB := Aside0.mk (ticks_new HB.out htk (Nat.le_refl _) (Nat.le_refl _)); clear htk hm2)
    refine hK.out _ _ s4 ?_
    clear hK K s2 HM
    (try simp only [Act.put, List.getElem_toArray, List.getElem_cons_succ, List.getElem_cons_zero, List.setIfInBounds_toArray, List.set_cons_zero, List.set_cons_succ])
    refine wpAnyH_take (i := 7) (v := .bool true) rfl (by kernel_rfl) (by kernel_rfl) (by kernel_rfl) (fun _ _ _ h => h) (Or.inl ⟨by kernel_rfl, fun w' h => by first | (go_simp; done) | (go_simp; rfl)⟩) s4 ?_
    (try simp only [Act.put, List.getElem_toArray, List.getElem_cons_succ, List.getElem_cons_zero, List.setIfInBounds_toArray, List.set_cons_zero, List.set_cons_succ])
    refine wpAnyH_take (i := 8) (v := .bool true) rfl (by kernel_rfl) (by kernel_rfl) (by kernel_rfl) (fun _ _ _ h => h) (Or.inl ⟨by kernel_rfl, fun w' h => by first | (go_simp; done) | (go_simp; rfl)⟩) s4 ?_
    (try simp only [Act.put, List.getElem_toArray, List.getElem_cons_succ, List.getElem_cons_zero, List.setIfInBounds_toArray, List.set_cons_zero, List.set_cons_succ])
    refine held_step (i := 9) (by kernel_rfl) rfl (by kernel_rfl) (fun K hK => ?_)
    go_wp2_with (go_at_call 11; refine (w07_lives.calls true _ (maxis_below HMX.out HB.out) rfl).mono ?_; rintro r y5 ⟨rfl, hb⟩; have s5 := HSi.out _ (blk_below (HSx.out _ s4) hb); replace HB := Aside0.mk (below_step HB.out hb); clear hb)
    refine hK.out _ _ s5 ?_
    clear hK K s4
    (try simp only [Act.put, List.getElem_toArray, List.getElem_cons_succ, List.getElem_cons_zero, List.setIfInBounds_toArray, List.set_cons_zero, List.set_cons_succ])
    refine wpAnyH_take (i := 10) (v := .bool true) rfl (by kernel_rfl) (by kernel_rfl) (by kernel_rfl) (fun _ _ _ h => h) (Or.inl ⟨by kernel_rfl, fun w' h => by first | (go_simp; done) | (go_simp; rfl)⟩) s5 ?_
    (try simp only [Act.put, List.getElem_toArray, List.getElem_cons_succ, List.getElem_cons_zero, List.setIfInBounds_toArray, List.set_cons_zero, List.set_cons_succ])
    refine wpAnyH_take (i := 11) (v := .bool true) rfl (by kernel_rfl) (by kernel_rfl) (by kernel_rfl) (fun _ _ _ h => h) (Or.inl ⟨by kernel_rfl, fun w' h => by first | (go_simp; done) | (go_simp; rfl)⟩) s5 ?_
    (try simp only [Act.put, List.getElem_toArray, List.getElem_cons_succ, List.getElem_cons_zero, List.setIfInBounds_toArray, List.set_cons_zero, List.set_cons_succ])
    refine wpAnyH_done (by kernel_rfl) ?_ _
    go_wp2
    go_ret
    exact ⟨rfl, HB.out⟩  
  · have e0n : decide (12 < n) = false := decide_eq_false h12
    have e0 : decide ((12 : Int) < (n : Int)) = false := decide_eq_false (by omega)
    have HRL := Aside0.mk (show RdT w A n cap L from HRD.out)
    have HLL := Aside0.mk (show n ≤ 900 by omega)
    have HFL := Aside0.mk (fine_newS L (fun x hx => HALL.out x hx))
    have HLN := Aside0.mk (show (newS L).length ≤ 1000 by have h1 := HFL.out.len; have h2 := HRL.out.len; have h3 := HLL.out; omega)
    obtain ⟨s, hs⟩ : ∃ s, spOf (newS L) (of4 num) = s := ⟨_, rfl⟩
    obtain ⟨l, hl⟩ : ∃ l, newS L = l := ⟨_, rfl⟩
    rw [hl] at HFL HLN hs
    have HOF := Aside0.mk (fun (M T base : Nat) (sv : Value) (w : World) (hm : Mp w M T base ((0 : Nat) : Int) sv l) => map_Of M T base 0 sv l (of4 num) (ok_of4 _) w hm HFL.out.sorted HLN.out (by decide))
    have HOM := Aside0.mk (fun (M T base : Nat) (st : Nat) (sv : Value) (w : World) (hm : Mp w M T base (st : Int) sv l) (hst : st ≤ 1000000) => map_Of M T base st sv l (mapA (of4 num)) (ok_map (ok_of4 _)) w hm HFL.out.sorted HLN.out hst)
    rw [hs] at HOF
    rw [same_sp l num H01.out.1 H01.out.2, hs] at HOM
    have HL := Aside0.mk hl
    clear hs hl
    go_enter Tryd.func3, Tryd.ntmps3
    go_wp2_with (first
      | (go_at_call 7; refine (space_New A n cap L _ HRL.out HLL.out).mono ?_; rintro r w1 ⟨M, sv, rfl, hz, hm, hb⟩; rw [HL.out] at hm; have HM := Aside0.mk hm; have HZ := Aside0.mk hz; replace HB := Aside0.mk (below_step HB.out hb); clear hm hb hz)
      | (go_at_call 8; refine (ref04_Of4 num _).mono ?_; rintro r w2 ⟨rfl, hb⟩; replace HM := Aside0.mk (mp_below HM.out hb); replace HB := Aside0.mk (below_step HB.out hb); clear hb)
      | ((with_reducible refine gate_dst (N := 6) rfl ?_); refine box_event ?hg (N := 6) ?hd (cs := eA noA) (t := 28) ?hr ?_; (case hd => rfl); (case hg => rfl); (case hr => first | (go_simp; done) | (go_simp; rfl)); intro k6 hg y2 hbox hb; have H6 := Aside0.mk hbox; have HG6 := Aside0.mk (show w.heap.size ≤ k6 by rw [hg]; exact HB.out.size); have HNM := Aside0.mk (show M ≠ k6 ∧ k6 ≠ w.heap.size by have h1 := (Array.getElem?_eq_some_iff.1 HM.out.blk).1; have h2 := (Array.getElem?_eq_some_iff.1 HM.out.tb.blk).1; omega); have HF6 := Aside0.mk (own_fresh HM.out.tb.row (Nat.le_of_eq hg.symm)); replace HM := Aside0.mk (mp_below HM.out hb); replace HB := Aside0.mk (below_step HB.out hb); clear hb hg hbox)
      | ((with_reducible refine gate_store (t := 28) (p := 6) rfl ?_); refine wpList_store_row rfl 28 (.tmp 6) (.tmp 17) rfl k6 (eA (of4 num)) rfl rfl 28 (eA noA) H6.out (infoE (ok_of4 num)) ((eA_size ok_noA).trans (eA_size (ok_of4 num)).symm) (eA_one _) ?_; replace H6 := Aside0.mk (row_new (cells := eA (of4 num)) H6.out); replace HM := Aside0.mk (mp_row HM.out HNM.out.1 HNM.out.2 HF6.out (eA (of4 num))); replace HB := Aside0.mk (below_row HB.out HG6.out (eA (of4 num))); generalize y2.setRow k6 (eA (of4 num)) = y3 at H6 HM HB ⊢))
    obtain ⟨S, hS⟩ : ∃ S : World → Prop, S = fun w' => w'.heap[k6]? = some (.cells (eA (of4 num)) 28 (0, 0)) := ⟨_, rfl⟩
    have HSx := Aside0.mk (show ∀ x : World, S x → x.heap[k6]? = some (.cells (eA (of4 num)) 28 (0, 0)) by intro b h; rw [hS] at h; exact h)
    have HSi := Aside0.mk (show ∀ x : World, x.heap[k6]? = some (.cells (eA (of4 num)) 28 (0, 0)) → S x by intro b h; rw [hS]; exact h)
    have s0 : S y3.drew := HSi.out _ H6.out
    replace HB := Aside0.mk (bdrew HB.out)
    replace HM := Aside0.mk (mp_below HM.out (bdrew (Below.refl _ _)))
    clear hS
    refine wp_region_held_drew (S := S) (by kernel_rfl) s0 (fun _ => ?_)
    generalize y3.drew = y0 at s0 HB HM ⊢
    (try simp only [Act.put, List.getElem_toArray, List.getElem_cons_succ, List.getElem_cons_zero, List.setIfInBounds_toArray, List.set_cons_zero, List.set_cons_succ])
    refine wpAnyH_take (i := 0) (v := .pointer (some ⟨M, 0, none⟩)) rfl (by kernel_rfl) (by kernel_rfl) (by kernel_rfl) (fun _ _ _ h => h) (Or.inl ⟨by kernel_rfl, fun w' h => by first | (go_simp; done) | (go_simp; rfl)⟩) s0 ?_
    (try simp only [Act.put, List.getElem_toArray, List.getElem_cons_succ, List.getElem_cons_zero, List.setIfInBounds_toArray, List.set_cons_zero, List.set_cons_succ])
    refine wpAnyH_take (i := 1) (v := .agg (eA (of4 num))) rfl (by kernel_rfl) (by kernel_rfl) (by kernel_rfl) (fun _ _ _ h => h) (yields_row (by kernel_rfl) 28 (.tmp 6) rfl k6 rfl 28 (eA (of4 num)) (0, 0) _ (fun w' h => (HSx.out w' h)) Tryd.underlying28 rfl (infoE (ok_of4 num))) s0 ?_
    (try simp only [Act.put, List.getElem_toArray, List.getElem_cons_succ, List.getElem_cons_zero, List.setIfInBounds_toArray, List.set_cons_zero, List.set_cons_succ])
    refine wpAnyH_take (i := 3) (v := .pointer (some ⟨M, 0, none⟩)) rfl (by kernel_rfl) (by kernel_rfl) (by kernel_rfl) (fun _ _ _ h => h) (Or.inl ⟨by kernel_rfl, fun w' h => by first | (go_simp; done) | (go_simp; rfl)⟩) s0 ?_
    (try simp only [Act.put, List.getElem_toArray, List.getElem_cons_succ, List.getElem_cons_zero, List.setIfInBounds_toArray, List.set_cons_zero, List.set_cons_succ])
    refine wpAnyH_take (i := 4) (v := .agg (eA (of4 num))) rfl (by kernel_rfl) (by kernel_rfl) (by kernel_rfl) (fun _ _ _ h => h) (yields_row (by kernel_rfl) 28 (.tmp 6) rfl k6 rfl 28 (eA (of4 num)) (0, 0) _ (fun w' h => (HSx.out w' h)) Tryd.underlying28 rfl (infoE (ok_of4 num))) s0 ?_
    (try simp only [Act.put, List.getElem_toArray, List.getElem_cons_succ, List.getElem_cons_zero, List.setIfInBounds_toArray, List.set_cons_zero, List.set_cons_succ])
    refine held_step (i := 2) (by kernel_rfl) rfl (by kernel_rfl) (fun K hK => ?_)
    go_wp2_with (go_at_call 9; refine (HOF.out _ _ _ sv _ HM.out).mono ?_; rintro r y1 ⟨rfl, m1, hm1, htk⟩; have s1 := HSi.out _ (ticks_blk htk (HSx.out _ s0) HNM.out.2); replace HM := Aside0.mk (mp_ticks HM.out htk); replace HB := Aside0.mk (ticks_new HB.out htk (Nat.le_refl _) (Nat.le_refl _)); have HST := Aside0.mk (show 0 + m1 ≤ 1000000 by have := blen_le l.length; have := HLN.out; omega); clear htk hm1)
    refine hK.out _ _ s1 ?_
    clear hK K s0
    (try simp only [Act.put, List.getElem_toArray, List.getElem_cons_succ, List.getElem_cons_zero, List.setIfInBounds_toArray, List.set_cons_zero, List.set_cons_succ])
    refine held_step (i := 5) (by kernel_rfl) rfl (by kernel_rfl) (fun K hK => ?_)
    go_wp2_with (go_at_call 10; refine (ref04_Map4 num H01.out.1 H01.out.2 _).mono ?_; rintro r y2 ⟨rfl, hb⟩; have s2 := HSi.out _ (blk_below (HSx.out _ s1) hb); replace HM := Aside0.mk (mp_below HM.out hb); replace HB := Aside0.mk (below_step HB.out hb); clear hb)
    refine hK.out _ _ s2 ?_
    clear hK K s1
    (try simp only [Act.put, List.getElem_toArray, List.getElem_cons_succ, List.getElem_cons_zero, List.setIfInBounds_toArray, List.set_cons_zero, List.set_cons_succ])
    refine held_step (i := 6) (by kernel_rfl) rfl (by kernel_rfl) (fun K hK => ?_)
    go_wp2_with (go_at_call 9; refine (HOM.out _ _ _ (0 + m1) sv _ HM.out HST.out).mono ?_; rintro r y4 ⟨rfl, m2, hm2, htk⟩; have s4 := HSi.out _ (ticks_blk htk (HSx.out _ s2) HNM.out.2); replace HB := Aside0.mk (ticks_new HB.out htk (Nat.le_refl _) (Nat.le_refl _)); clear htk hm2)
    refine hK.out _ _ s4 ?_
    clear hK K s2 HM
    (try simp only [Act.put, List.getElem_toArray, List.getElem_cons_succ, List.getElem_cons_zero, List.setIfInBounds_toArray, List.set_cons_zero, List.set_cons_succ])
    refine wpAnyH_take (i := 7) (v := .bool true) rfl (by kernel_rfl) (by kernel_rfl) (by kernel_rfl) (fun _ _ _ h => h) (Or.inl ⟨by kernel_rfl, fun w' h => by first | (go_simp; done) | (go_simp; rfl)⟩) s4 ?_
    (try simp only [Act.put, List.getElem_toArray, List.getElem_cons_succ, List.getElem_cons_zero, List.setIfInBounds_toArray, List.set_cons_zero, List.set_cons_succ])
    refine wpAnyH_take (i := 8) (v := .bool true) rfl (by kernel_rfl) (by kernel_rfl) (by kernel_rfl) (fun _ _ _ h => h) (Or.inl ⟨by kernel_rfl, fun w' h => by first | (go_simp; done) | (go_simp; rfl)⟩) s4 ?_
    (try simp only [Act.put, List.getElem_toArray, List.getElem_cons_succ, List.getElem_cons_zero, List.setIfInBounds_toArray, List.set_cons_zero, List.set_cons_succ])
    refine held_step (i := 9) (by kernel_rfl) rfl (by kernel_rfl) (fun K hK => ?_)
    go_wp2_with (go_at_call 11; refine (w07_lives.calls true _ (maxis_below HMX.out HB.out) rfl).mono ?_; rintro r y5 ⟨rfl, hb⟩; have s5 := HSi.out _ (blk_below (HSx.out _ s4) hb); replace HB := Aside0.mk (below_step HB.out hb); clear hb)
    refine hK.out _ _ s5 ?_
    clear hK K s4
    (try simp only [Act.put, List.getElem_toArray, List.getElem_cons_succ, List.getElem_cons_zero, List.setIfInBounds_toArray, List.set_cons_zero, List.set_cons_succ])
    refine wpAnyH_take (i := 10) (v := .bool true) rfl (by kernel_rfl) (by kernel_rfl) (by kernel_rfl) (fun _ _ _ h => h) (Or.inl ⟨by kernel_rfl, fun w' h => by first | (go_simp; done) | (go_simp; rfl)⟩) s5 ?_
    (try simp only [Act.put, List.getElem_toArray, List.getElem_cons_succ, List.getElem_cons_zero, List.setIfInBounds_toArray, List.set_cons_zero, List.set_cons_succ])
    refine wpAnyH_take (i := 11) (v := .bool true) rfl (by kernel_rfl) (by kernel_rfl) (by kernel_rfl) (fun _ _ _ h => h) (Or.inl ⟨by kernel_rfl, fun w' h => by first | (go_simp; done) | (go_simp; rfl)⟩) s5 ?_
    (try simp only [Act.put, List.getElem_toArray, List.getElem_cons_succ, List.getElem_cons_zero, List.setIfInBounds_toArray, List.set_cons_zero, List.set_cons_succ])
    refine wpAnyH_done (by kernel_rfl) ?_ _
    go_wp2
    go_ret
    exact ⟨rfl, HB.out⟩
end Go.Proofs.YtjilnigmbnmlfaaDoor.P
