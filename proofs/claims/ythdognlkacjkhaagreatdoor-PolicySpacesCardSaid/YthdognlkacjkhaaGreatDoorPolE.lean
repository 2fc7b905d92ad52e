/-
  A page is made, and judged: the example of layer 16.
-/
import Derived.Test.YthdognlkacjkhaaGreatDoorPolC
namespace Go.Proofs.YthdognlkacjkhaaGreatDoor.P
open Go.RowKit Go.Proofs.YthdognlkacjkhaaGreatDoorW.PrintWords Go.Proofs.YthdognlkacjkhaaGreatDoorW.PrintLast Go.Proofs.YthdognlkacjkhaaGreatDoorW.PrintMore
set_option linter.unusedVariables false
set_option linter.unusedSimpArgs false
section
variable {P : Program} {o : Oper} {a : Act} {w : World}
theorem run_builtP {t : TypeId} {parts : Array (Nat × Operand)} {cs : Array Value} (ho : o.op = .build t parts) (hb : P.built t (parts.map fun (i, y) => (i, a.eval y)).toList = some cs) : (execOp a.eval o).run P w = .ok (.value (.agg cs)) w := by
  unfold execOp
  simp only [ho, Sem.run_bind, run_build w _ _ _ hb, Result.andThen_ok]
  simp
end
/-- Of one address the map tells a number. -/
def OfIs (M T base : Nat) (sv : Value) (l : List En) (b : Ad) (z : Int) : Prop := ∀ (st : Nat) (w : World), Mp w M T base (st : Int) sv l → st ≤ 1000000 → Calls Tryz.prog 15 #[.pointer (some ⟨M, 0, none⟩), .agg (eA b)] w fun r w' => r = .returned (.int .i64 z) ∧ ∃ m : Nat, m ≤ 129 * (blen l.length + 1) ∧ Ticks T 1 w w' ((st + m : Nat) : Int)
set_option maxHeartbeats 8000000 in
set_option maxRecDepth 100000 in
theorem make_ex (sc ho pa qu : ByteArray) (z : Int) (M T base : Nat) (sv : Value) (l : List En) (b : Ad) (hb : b.ok) (w0 : World) (hmx : MaxIs w0) (hT : w0.heap.size ≤ T) (hsec : ∀ w, MaxIs w → Calls Tryz.prog 32 #[.agg #[.string sc, .string ho, .int .i64 80]] w fun e w' => e = .returned (.bool false) ∧ Below w.heap.size w w')
    (hof : OfIs M T base sv l b z) (w : World) (hb0 : Below w0.heap.size w0 w) (hm : Mp w M T base ((0 : Nat) : Int) sv l) :
    Calls Tryz.prog 18 #[.agg #[.string sc, .string ho, .int .i64 80, .string pa, .string qu], .agg (eA b), .slice none 0 0, .pointer (some ⟨M, 0, none⟩)] w fun e w' => e = .returned (.agg #[.string sc, .string ho, .int .i64 80, .int .i64 z, .bool false]) ∧ (∃ m : Nat, m ≤ 129 * (blen l.length + 1) ∧ Mp w' M T base ((0 + m : Nat) : Int) sv l) ∧ Below w0.heap.size w0 w' := by
  have HB := Aside0.mk hb0
  have HMX := Aside0.mk hmx
  have HTT := Aside0.mk hT
  have HSC := Aside0.mk hsec
  have HOF := Aside0.mk hof
  have HBO := Aside0.mk hb
  have HM := Aside0.mk hm
  clear hb0 hmx hT hsec hof hb hm
  go_enter Tryz.func18, Tryz.ntmps18
  go_wp2_with (first
    | ((with_reducible refine gate_dst (N := 4) rfl ?_); refine box_event ?hg (N := 4) ?hd (cs := #[.string sc, .string ho, .int .i64 80, .string pa, .string qu]) (t := 61) ?hr ?_; (case hd => rfl); (case hg => rfl); (case hr => first | (go_simp; done) | (go_simp; rfl)); intro k4 hg w1 hbox hb; have H4 := Aside0.mk hbox; have HG4 := Aside0.mk (show w0.heap.size ≤ k4 by rw [hg]; exact HB.out.size); have HN4 := Aside0.mk (show k4 ≠ T by have := blk_lt HM.out.tb.blk; omega); replace HM := Aside0.mk (mp_below HM.out hb); replace HB := Aside0.mk (below_step HB.out hb); clear hb hg hbox)
    | ((with_reducible refine gate_dst (N := 5) rfl ?_); refine box_event ?hg (N := 5) ?hd (cs := eA b) (t := 30) ?hr ?_; (case hd => rfl); (case hg => rfl); (case hr => first | (go_simp; done) | (go_simp; rfl)); intro k5 hg w2 hbox hb; have H5 := Aside0.mk hbox; have HG5 := Aside0.mk (show w0.heap.size ≤ k5 by rw [hg]; exact HB.out.size); have HN5 := Aside0.mk (show k5 ≠ T by have := blk_lt HM.out.tb.blk; omega); have HQ4_5 := Aside0.mk (show k4 ≠ k5 by have h1 := (Array.getElem?_eq_some_iff.1 H4.out).1; omega); replace H4 := Aside0.mk (blk_below H4.out hb); replace HM := Aside0.mk (mp_below HM.out hb); replace HB := Aside0.mk (below_step HB.out hb); clear hb hg hbox)
    | ((with_reducible refine gate_dst (N := 8) rfl ?_); refine box_event ?hg (N := 8) ?hd (cs := #[.string ⟨#[]⟩, .string ⟨#[]⟩, .int .i64 0, .int .i64 0, .bool false]) (t := 58) ?hr ?_; (case hd => rfl); (case hg => rfl); (case hr => first | (go_simp; done) | (go_simp; rfl)); intro k8 hg w3 hbox hb; have H8 := Aside0.mk hbox; have HG8 := Aside0.mk (show w0.heap.size ≤ k8 by rw [hg]; exact HB.out.size); have HN8 := Aside0.mk (show k8 ≠ T by have := blk_lt HM.out.tb.blk; omega); have HQ4_8 := Aside0.mk (show k4 ≠ k8 by have h1 := (Array.getElem?_eq_some_iff.1 H4.out).1; omega); have HQ5_8 := Aside0.mk (show k5 ≠ k8 by have h1 := (Array.getElem?_eq_some_iff.1 H5.out).1; omega); replace H4 := Aside0.mk (blk_below H4.out hb); replace H5 := Aside0.mk (blk_below H5.out hb); replace HM := Aside0.mk (mp_below HM.out hb); replace HB := Aside0.mk (below_step HB.out hb); clear hb hg hbox)
    | ((with_reducible refine gate_dst (N := 11) rfl ?_); refine wpList_load_row rfl 61 (.tmp 4) rfl k4 rfl 61 (#[.string sc, .string ho, .int .i64 80, .string pa, .string qu]) (0, 0) _ H4.out Tryz.underlying61 rfl (info_Ur sc ho pa qu 80) ?_)
    | (go_at_call 31; refine (url_Origin sc ho pa qu _).mono ?_; rintro r w4 ⟨rfl, hb⟩; replace H5 := Aside0.mk (blk_below H5.out hb); replace H8 := Aside0.mk (blk_below H8.out hb); replace HM := Aside0.mk (mp_below HM.out hb); replace HB := Aside0.mk (below_step HB.out hb); clear hb)
    | ((with_reducible refine gate_dst (N := 9) rfl ?_); refine box_event ?hg (N := 9) ?hd (cs := #[.string ⟨#[]⟩, .string ⟨#[]⟩, .int .i64 0]) (t := 56) ?hr ?_; (case hd => rfl); (case hg => rfl); (case hr => first | (go_simp; done) | (go_simp; rfl)); intro k9 hg w5 hbox hb; have H9 := Aside0.mk hbox; have HG9 := Aside0.mk (show w0.heap.size ≤ k9 by rw [hg]; exact HB.out.size); have HN9 := Aside0.mk (show k9 ≠ T by have := blk_lt HM.out.tb.blk; omega); have HQ5_9 := Aside0.mk (show k5 ≠ k9 by have h1 := (Array.getElem?_eq_some_iff.1 H5.out).1; omega); have HQ8_9 := Aside0.mk (show k8 ≠ k9 by have h1 := (Array.getElem?_eq_some_iff.1 H8.out).1; omega); replace H5 := Aside0.mk (blk_below H5.out hb); replace H8 := Aside0.mk (blk_below H8.out hb); replace HM := Aside0.mk (mp_below HM.out hb); replace HB := Aside0.mk (below_step HB.out hb); clear hb hg hbox)
    | ((with_reducible refine gate_store (t := 56) (p := 9) rfl ?_); refine wpList_store_row rfl 56 (.tmp 9) (.tmp 12) rfl k9 (#[.string sc, .string ho, .int .i64 80]) rfl rfl 56 (#[.string ⟨#[]⟩, .string ⟨#[]⟩, .int .i64 0]) H9.out (info_Or sc ho 80) rfl (one_Or sc ho 80) ?_; replace H5 := Aside0.mk ((row_far (cells := #[.string sc, .string ho, .int .i64 80]) HQ5_9.out).trans H5.out); replace H8 := Aside0.mk ((row_far (cells := #[.string sc, .string ho, .int .i64 80]) HQ8_9.out).trans H8.out); replace HM := Aside0.mk (mp_row HM.out (show M ≠ k9 by have h1 := HM.out.blk; have h2 := H9.out; intro e; rw [e, h2] at h1; cases h1) HN9.out (Ne.symm (mp_own_ne HM.out H9.out (fun cs fr e => by cases e))) (#[.string sc, .string ho, .int .i64 80])); replace H9 := Aside0.mk (row_new (cells := #[.string sc, .string ho, .int .i64 80]) H9.out); replace HB := Aside0.mk (below_row HB.out HG9.out (#[.string sc, .string ho, .int .i64 80])); generalize w5.setRow k9 (#[.string sc, .string ho, .int .i64 80]) = w6 at H5 H8 H9 HM HB ⊢))
  obtain ⟨S, hS⟩ : ∃ S : World → Prop, S = fun w' => w'.heap[k9]? = some (.cells #[.string sc, .string ho, .int .i64 80] 56 (0, 0)) ∧ w'.heap[k5]? = some (.cells (eA b) 30 (0, 0)) ∧ w'.heap[k8]? = some (.cells #[.string ⟨#[]⟩, .string ⟨#[]⟩, .int .i64 0, .int .i64 0, .bool false] 58 (0, 0)) := ⟨_, rfl⟩
  have HSx := Aside0.mk (show ∀ x : World, S x → x.heap[k9]? = some (.cells #[.string sc, .string ho, .int .i64 80] 56 (0, 0)) ∧ x.heap[k5]? = some (.cells (eA b) 30 (0, 0)) ∧ x.heap[k8]? = some (.cells #[.string ⟨#[]⟩, .string ⟨#[]⟩, .int .i64 0, .int .i64 0, .bool false] 58 (0, 0)) by intro b h; rw [hS] at h; exact h)
  have HSi := Aside0.mk (show ∀ x : World, x.heap[k9]? = some (.cells #[.string sc, .string ho, .int .i64 80] 56 (0, 0)) → x.heap[k5]? = some (.cells (eA b) 30 (0, 0)) → x.heap[k8]? = some (.cells #[.string ⟨#[]⟩, .string ⟨#[]⟩, .int .i64 0, .int .i64 0, .bool false] 58 (0, 0)) → S x by intro b h0 h1 h2; rw [hS]; exact ⟨h0, h1, h2⟩)
  have s0 : S w6.drew := HSi.out _ H9.out H5.out H8.out
  have hb := bdrew (Below.refl w6.heap.size w6)
  replace HB := Aside0.mk (bdrew HB.out)
  replace HM := Aside0.mk (mp_below HM.out hb)
  clear hS hb H9 H5 H8 H4
  refine wp_region_held_drew (S := S) (by kernel_rfl) s0 (fun _ => ?_)
  generalize w6.drew = y0 at s0 HB HM ⊢
  refine anyH_tail (X := ?X10) (fun k10 y => y.heap[k10]? = some (.cells #[.string sc, .string ho, .int .i64 80, .int .i64 z, .bool false] 58 (0, 0)) ∧ y.heap[k8]? = some (.cells #[.string ⟨#[]⟩, .string ⟨#[]⟩, .int .i64 0, .int .i64 0, .bool false] 58 (0, 0)) ∧ k8 ≠ k10 ∧ w0.heap.size ≤ k10 ∧ (∃ m : Nat, m ≤ 129 * (blen l.length + 1) ∧ Mp y M T base ((0 + m : Nat) : Int) sv l) ∧ Below w0.heap.size w0 y) (fun HTAIL => ?h10) ?t10
  case h10 =>
    (try simp only [Act.put, List.getElem_toArray, List.getElem_cons_succ, List.getElem_cons_zero, List.setIfInBounds_toArray, List.set_cons_zero, List.set_cons_succ])
    refine wpAnyH_take (i := 0) (v := .agg #[.string sc, .string ho, .int .i64 80]) rfl (by kernel_rfl) (by kernel_rfl) (by kernel_rfl) (fun _ _ _ h => h) (yields_row (by kernel_rfl) 56 (.tmp 9) rfl k9 rfl 56 (#[.string sc, .string ho, .int .i64 80]) (0, 0) _ (fun w' h => (HSx.out w' h).1) Tryz.underlying56 rfl (info_Or sc ho 80)) s0 ?_
    (try simp only [Act.put, List.getElem_toArray, List.getElem_cons_succ, List.getElem_cons_zero, List.setIfInBounds_toArray, List.set_cons_zero, List.set_cons_succ])
    refine wpAnyH_take (i := 1) (v := .pointer (some ⟨M, 0, none⟩)) rfl (by kernel_rfl) (by kernel_rfl) (by kernel_rfl) (fun _ _ _ h => h) (Or.inl ⟨by kernel_rfl, fun w' h => by first | (go_simp; done) | (go_simp; rfl)⟩) s0 ?_
    (try simp only [Act.put, List.getElem_toArray, List.getElem_cons_succ, List.getElem_cons_zero, List.setIfInBounds_toArray, List.set_cons_zero, List.set_cons_succ])
    refine wpAnyH_take (i := 2) (v := .agg (eA b)) rfl (by kernel_rfl) (by kernel_rfl) (by kernel_rfl) (fun _ _ _ h => h) (yields_row (by kernel_rfl) 30 (.tmp 5) rfl k5 rfl 30 (eA b) (0, 0) _ (fun w' h => (HSx.out w' h).2.1) Tryz.underlying30 rfl (infoE HBO.out)) s0 ?_
    (try simp only [Act.put, List.getElem_toArray, List.getElem_cons_succ, List.getElem_cons_zero, List.setIfInBounds_toArray, List.set_cons_zero, List.set_cons_succ])
    refine wpAnyH_take (i := 4) (v := .agg #[.string sc, .string ho, .int .i64 80]) rfl (by kernel_rfl) (by kernel_rfl) (by kernel_rfl) (fun _ _ _ h => h) (yields_row (by kernel_rfl) 56 (.tmp 9) rfl k9 rfl 56 (#[.string sc, .string ho, .int .i64 80]) (0, 0) _ (fun w' h => (HSx.out w' h).1) Tryz.underlying56 rfl (info_Or sc ho 80)) s0 ?_
    (try simp only [Act.put, List.getElem_toArray, List.getElem_cons_succ, List.getElem_cons_zero, List.setIfInBounds_toArray, List.set_cons_zero, List.set_cons_succ])
    refine held_two (i := 3) (j := 7) (by kernel_rfl) rfl (by kernel_rfl) rfl (by kernel_rfl) (fun K hK => ?_) (fun K hK => ?_)
    · go_wp2_with (go_at_call 15; refine (HOF.out 0 _ HM.out (by decide)).mono ?_; rintro r z1 ⟨rfl, m, hm, htk⟩; have HMM := Aside0.mk hm; have s1 := HSi.out _ (ticks_blk htk (HSx.out _ s0).1 HN9.out) (ticks_blk htk (HSx.out _ s0).2.1 HN5.out) (ticks_blk htk (HSx.out _ s0).2.2 HN8.out); replace HM := Aside0.mk (mp_ticks HM.out htk); replace HB := Aside0.mk (ticks_new HB.out htk HTT.out (Nat.le_refl _)); clear htk hm)
      refine hK.out _ _ s1 ?_
      clear hK K
      (try simp only [Act.put, List.getElem_toArray, List.getElem_cons_succ, List.getElem_cons_zero, List.setIfInBounds_toArray, List.set_cons_zero, List.set_cons_succ])
      refine held_two (i := 5) (j := 7) (by kernel_rfl) rfl (by kernel_rfl) rfl (by kernel_rfl) (fun K hK => ?_) (fun K hK => ?_)
      · go_wp2_with (go_at_call 32; refine (HSC.out _ (maxis_below HMX.out HB.out)).mono ?_; rintro r z2 ⟨rfl, hb⟩; have s2 := HSi.out _ (blk_below (HSx.out _ s1).1 hb) (blk_below (HSx.out _ s1).2.1 hb) (blk_below (HSx.out _ s1).2.2 hb); replace HM := Aside0.mk (mp_below HM.out hb); replace HB := Aside0.mk (below_step HB.out hb); clear hb)
        refine hK.out _ _ s2 ?_
        clear hK K
        (try simp only [Act.put, List.getElem_toArray, List.getElem_cons_succ, List.getElem_cons_zero, List.setIfInBounds_toArray, List.set_cons_zero, List.set_cons_succ])
        refine wpAnyH_take (i := 6) (v := .agg #[.string sc, .string ho, .int .i64 80, .int .i64 z, .bool false]) rfl (by kernel_rfl) (by kernel_rfl) (by kernel_rfl) (fun _ _ _ h => h) (Or.inl ⟨by kernel_rfl, fun w' h => run_builtP rfl (by rw [List.map_toArray]; kernel_rfl)⟩) s2 ?_
        (try simp only [Act.put, List.getElem_toArray, List.getElem_cons_succ, List.getElem_cons_zero, List.setIfInBounds_toArray, List.set_cons_zero, List.set_cons_succ])
        refine held_step (i := 7) (by kernel_rfl) rfl (by kernel_rfl) (fun K hK => ?_)
        refine wp_new_event (cs := #[.string ⟨#[]⟩, .string ⟨#[]⟩, .int .i64 0, .int .i64 0, .bool false]) (t := 58) (by first | (go_simp; done) | (go_simp; rfl)) ?_
        intro k10 hg z5 hbox hb
        have H10 := Aside0.mk hbox
        have HG10 := Aside0.mk (show w0.heap.size ≤ k10 by rw [hg]; exact HB.out.size)
        have HN10 := Aside0.mk (show k10 ≠ T ∧ M ≠ k10 ∧ k8 ≠ k10 by have h1 := (Array.getElem?_eq_some_iff.1 (HSx.out _ s2).2.2).1; have h2 := (Array.getElem?_eq_some_iff.1 HM.out.blk).1; have h3 := blk_lt HM.out.tb.blk; omega)
        have s3 := HSi.out _ (blk_below (HSx.out _ s2).1 hb) (blk_below (HSx.out _ s2).2.1 hb) (blk_below (HSx.out _ s2).2.2 hb)
        replace HM := Aside0.mk (mp_below HM.out hb); replace HB := Aside0.mk (below_step HB.out hb)
        refine hK.out _ _ s3 ?_
        clear hK K hg hbox hb
        (try simp only [Act.put, List.getElem_toArray, List.getElem_cons_succ, List.getElem_cons_zero, List.setIfInBounds_toArray, List.set_cons_zero, List.set_cons_succ])
        refine held_step (i := 8) (by kernel_rfl) rfl (by kernel_rfl) (fun K hK => ?_)
        refine wp_store_row 58 (.tmp 10) (.tmp 19) rfl k10 (#[.string sc, .string ho, .int .i64 80, .int .i64 z, .bool false]) rfl rfl 58 (#[.string ⟨#[]⟩, .string ⟨#[]⟩, .int .i64 0, .int .i64 0, .bool false]) H10.out (info_Pg sc ho 80 z false) rfl (one_Pg sc ho 80 z false) ?_
        refine hK.out _ _ (HSi.out _ ((row_far (fun e => by have h1 := (HSx.out _ s3).1; rw [e, H10.out] at h1; cases h1)).trans (HSx.out _ s3).1) ((row_far (fun e => by have h1 := (HSx.out _ s3).2.1; rw [e, H10.out] at h1; cases h1)).trans (HSx.out _ s3).2.1) ((row_far HN10.out.2.2).trans (HSx.out _ s3).2.2)) ?_
        clear hK K
        (try simp only [Act.put, List.getElem_toArray, List.getElem_cons_succ, List.getElem_cons_zero, List.setIfInBounds_toArray, List.set_cons_zero, List.set_cons_succ])
        refine wpAnyH_done (by kernel_rfl) ?_ _
        exact HTAIL.out k10 _ ⟨row_new H10.out, (row_far HN10.out.2.2).trans (HSx.out _ s3).2.2, HN10.out.2.2, HG10.out, ⟨m, HMM.out, mp_row HM.out HN10.out.2.1 HN10.out.1 (Ne.symm (mp_own_ne HM.out H10.out (fun cs fr e => by cases e))) _⟩, below_row HB.out HG10.out _⟩
      · refine wp_new_event (cs := #[.string ⟨#[]⟩, .string ⟨#[]⟩, .int .i64 0, .int .i64 0, .bool false]) (t := 58) (by first | (go_simp; done) | (go_simp; rfl)) ?_
        intro k10 hg z5 hbox hb
        have H10 := Aside0.mk hbox
        have HG10 := Aside0.mk (show w0.heap.size ≤ k10 by rw [hg]; exact HB.out.size)
        have HN10 := Aside0.mk (show k10 ≠ T ∧ M ≠ k10 ∧ k8 ≠ k10 by have h1 := (Array.getElem?_eq_some_iff.1 (HSx.out _ s1).2.2).1; have h2 := (Array.getElem?_eq_some_iff.1 HM.out.blk).1; have h3 := blk_lt HM.out.tb.blk; omega)
        have s2 := HSi.out _ (blk_below (HSx.out _ s1).1 hb) (blk_below (HSx.out _ s1).2.1 hb) (blk_below (HSx.out _ s1).2.2 hb)
        replace HM := Aside0.mk (mp_below HM.out hb); replace HB := Aside0.mk (below_step HB.out hb)
        refine hK.out _ _ s2 ?_
        clear hK K hg hbox hb
        (try simp only [Act.put, List.getElem_toArray, List.getElem_cons_succ, List.getElem_cons_zero, List.setIfInBounds_toArray, List.set_cons_zero, List.set_cons_succ])
        refine held_step (i := 5) (by kernel_rfl) rfl (by kernel_rfl) (fun K hK => ?_)
        go_wp2_with (go_at_call 32; refine (HSC.out _ (maxis_below HMX.out HB.out)).mono ?_; rintro r z2 ⟨rfl, hb⟩; have s3 := HSi.out _ (blk_below (HSx.out _ s2).1 hb) (blk_below (HSx.out _ s2).2.1 hb) (blk_below (HSx.out _ s2).2.2 hb); replace H10 := Aside0.mk (blk_below H10.out hb); replace HM := Aside0.mk (mp_below HM.out hb); replace HB := Aside0.mk (below_step HB.out hb); clear hb)
        refine hK.out _ _ s3 ?_
        clear hK K 
        (try simp only [Act.put, List.getElem_toArray, List.getElem_cons_succ, List.getElem_cons_zero, List.setIfInBounds_toArray, List.set_cons_zero, List.set_cons_succ])
        refine wpAnyH_take (i := 6) (v := .agg #[.string sc, .string ho, .int .i64 80, .int .i64 z, .bool false]) rfl (by kernel_rfl) (by kernel_rfl) (by kernel_rfl) (fun _ _ _ h => h) (Or.inl ⟨by kernel_rfl, fun w' h => run_builtP rfl (by rw [List.map_toArray]; kernel_rfl)⟩) s3 ?_
        (try simp only [Act.put, List.getElem_toArray, List.getElem_cons_succ, List.getElem_cons_zero, List.setIfInBounds_toArray, List.set_cons_zero, List.set_cons_succ])
        refine held_step (i := 8) (by kernel_rfl) rfl (by kernel_rfl) (fun K hK => ?_)
        refine wp_store_row 58 (.tmp 10) (.tmp 19) rfl k10 (#[.string sc, .string ho, .int .i64 80, .int .i64 z, .bool false]) rfl rfl 58 (#[.string ⟨#[]⟩, .string ⟨#[]⟩, .int .i64 0, .int .i64 0, .bool false]) H10.out (info_Pg sc ho 80 z false) rfl (one_Pg sc ho 80 z false) ?_
        refine hK.out _ _ (HSi.out _ ((row_far (fun e => by have h1 := (HSx.out _ s3).1; rw [e, H10.out] at h1; cases h1)).trans (HSx.out _ s3).1) ((row_far (fun e => by have h1 := (HSx.out _ s3).2.1; rw [e, H10.out] at h1; cases h1)).trans (HSx.out _ s3).2.1) ((row_far HN10.out.2.2).trans (HSx.out _ s3).2.2)) ?_
        clear hK K
        (try simp only [Act.put, List.getElem_toArray, List.getElem_cons_succ, List.getElem_cons_zero, List.setIfInBounds_toArray, List.set_cons_zero, List.set_cons_succ])
        refine wpAnyH_done (by kernel_rfl) ?_ _
        exact HTAIL.out k10 _ ⟨row_new H10.out, (row_far HN10.out.2.2).trans (HSx.out _ s3).2.2, HN10.out.2.2, HG10.out, ⟨m, HMM.out, mp_row HM.out HN10.out.2.1 HN10.out.1 (Ne.symm (mp_own_ne HM.out H10.out (fun cs fr e => by cases e))) _⟩, below_row HB.out HG10.out _⟩
    · refine wp_new_event (cs := #[.string ⟨#[]⟩, .string ⟨#[]⟩, .int .i64 0, .int .i64 0, .bool false]) (t := 58) (by first | (go_simp; done) | (go_simp; rfl)) ?_
      intro k10 hg z5 hbox hb
      have H10 := Aside0.mk hbox
      have HG10 := Aside0.mk (show w0.heap.size ≤ k10 by rw [hg]; exact HB.out.size)
      have HN10 := Aside0.mk (show k10 ≠ T ∧ M ≠ k10 ∧ k8 ≠ k10 by have h1 := (Array.getElem?_eq_some_iff.1 (HSx.out _ s0).2.2).1; have h2 := (Array.getElem?_eq_some_iff.1 HM.out.blk).1; have h3 := blk_lt HM.out.tb.blk; omega)
      have s1 := HSi.out _ (blk_below (HSx.out _ s0).1 hb) (blk_below (HSx.out _ s0).2.1 hb) (blk_below (HSx.out _ s0).2.2 hb)
      replace HM := Aside0.mk (mp_below HM.out hb); replace HB := Aside0.mk (below_step HB.out hb)
      refine hK.out _ _ s1 ?_
      clear hK K hg hbox hb
      (try simp only [Act.put, List.getElem_toArray, List.getElem_cons_succ, List.getElem_cons_zero, List.setIfInBounds_toArray, List.set_cons_zero, List.set_cons_succ])
      refine held_step (i := 3) (by kernel_rfl) rfl (by kernel_rfl) (fun K hK => ?_)
      go_wp2_with (go_at_call 15; refine (HOF.out 0 _ HM.out (by decide)).mono ?_; rintro r z1 ⟨rfl, m, hm, htk⟩; have HMM := Aside0.mk hm; have s2 := HSi.out _ (ticks_blk htk (HSx.out _ s1).1 HN9.out) (ticks_blk htk (HSx.out _ s1).2.1 HN5.out) (ticks_blk htk (HSx.out _ s1).2.2 HN8.out); replace H10 := Aside0.mk (ticks_blk htk H10.out HN10.out.1); replace HM := Aside0.mk (mp_ticks HM.out htk); replace HB := Aside0.mk (ticks_new HB.out htk HTT.out (Nat.le_refl _)); clear htk hm)
      refine hK.out _ _ s2 ?_
      clear hK K 
      (try simp only [Act.put, List.getElem_toArray, List.getElem_cons_succ, List.getElem_cons_zero, List.setIfInBounds_toArray, List.set_cons_zero, List.set_cons_succ])
      refine held_step (i := 5) (by kernel_rfl) rfl (by kernel_rfl) (fun K hK => ?_)
      go_wp2_with (go_at_call 32; refine (HSC.out _ (maxis_below HMX.out HB.out)).mono ?_; rintro r z2 ⟨rfl, hb⟩; have s3 := HSi.out _ (blk_below (HSx.out _ s2).1 hb) (blk_below (HSx.out _ s2).2.1 hb) (blk_below (HSx.out _ s2).2.2 hb); replace H10 := Aside0.mk (blk_below H10.out hb); replace HM := Aside0.mk (mp_below HM.out hb); replace HB := Aside0.mk (below_step HB.out hb); clear hb)
      refine hK.out _ _ s3 ?_
      clear hK K 
      (try simp only [Act.put, List.getElem_toArray, List.getElem_cons_succ, List.getElem_cons_zero, List.setIfInBounds_toArray, List.set_cons_zero, List.set_cons_succ])
      refine wpAnyH_take (i := 6) (v := .agg #[.string sc, .string ho, .int .i64 80, .int .i64 z, .bool false]) rfl (by kernel_rfl) (by kernel_rfl) (by kernel_rfl) (fun _ _ _ h => h) (Or.inl ⟨by kernel_rfl, fun w' h => run_builtP rfl (by rw [List.map_toArray]; kernel_rfl)⟩) s3 ?_
      (try simp only [Act.put, List.getElem_toArray, List.getElem_cons_succ, List.getElem_cons_zero, List.setIfInBounds_toArray, List.set_cons_zero, List.set_cons_succ])
      refine held_step (i := 8) (by kernel_rfl) rfl (by kernel_rfl) (fun K hK => ?_)
      refine wp_store_row 58 (.tmp 10) (.tmp 19) rfl k10 (#[.string sc, .string ho, .int .i64 80, .int .i64 z, .bool false]) rfl rfl 58 (#[.string ⟨#[]⟩, .string ⟨#[]⟩, .int .i64 0, .int .i64 0, .bool false]) H10.out (info_Pg sc ho 80 z false) rfl (one_Pg sc ho 80 z false) ?_
      refine hK.out _ _ (HSi.out _ ((row_far (fun e => by have h1 := (HSx.out _ s3).1; rw [e, H10.out] at h1; cases h1)).trans (HSx.out _ s3).1) ((row_far (fun e => by have h1 := (HSx.out _ s3).2.1; rw [e, H10.out] at h1; cases h1)).trans (HSx.out _ s3).2.1) ((row_far HN10.out.2.2).trans (HSx.out _ s3).2.2)) ?_
      clear hK K
      (try simp only [Act.put, List.getElem_toArray, List.getElem_cons_succ, List.getElem_cons_zero, List.setIfInBounds_toArray, List.set_cons_zero, List.set_cons_succ])
      refine wpAnyH_done (by kernel_rfl) ?_ _
      exact HTAIL.out k10 _ ⟨row_new H10.out, (row_far HN10.out.2.2).trans (HSx.out _ s3).2.2, HN10.out.2.2, HG10.out, ⟨m, HMM.out, mp_row HM.out HN10.out.2.1 HN10.out.1 (Ne.symm (mp_own_ne HM.out H10.out (fun cs fr e => by cases e))) _⟩, below_row HB.out HG10.out _⟩
  case t10 =>
    intro k10 x3 ⟨h10, h8, hq, hg10, hmm, hb3⟩
    have H10 := Aside0.mk h10
    have H8 := Aside0.mk h8
    have HQ := Aside0.mk hq
    obtain ⟨m, hm, hmp⟩ := hmm
    have HM2 := Aside0.mk (And.intro hm hmp)
    have HB := Aside0.mk hb3
    clear h10 h8 hq hm hmp hb3
    go_wp2_with (first
      | (go_at_call 33; refine (public_none _).mono ?_; rintro r x4 ⟨rfl, hb⟩; replace H10 := Aside0.mk (blk_below H10.out hb); replace H8 := Aside0.mk (blk_below H8.out hb); replace HM2 := Aside0.mk (And.intro HM2.out.1 (mp_below HM2.out.2 hb)); replace HB := Aside0.mk (below_step HB.out hb); clear hb)
      | ((with_reducible refine gate_dst (N := 23) rfl ?_); refine wpList_load_row rfl 58 (.tmp 10) rfl k10 rfl 58 (#[.string sc, .string ho, .int .i64 80, .int .i64 z, .bool false]) (0, 0) _ H10.out Tryz.underlying58 rfl (info_Pg sc ho 80 z false) ?_)
      | ((with_reducible refine gate_store (t := 58) (p := 8) rfl ?_); refine wpList_store_row rfl 58 (.tmp 8) (.tmp 23) rfl k8 (#[.string sc, .string ho, .int .i64 80, .int .i64 z, .bool false]) rfl rfl 58 (#[.string ⟨#[]⟩, .string ⟨#[]⟩, .int .i64 0, .int .i64 0, .bool false]) H8.out (info_Pg sc ho 80 z false) rfl (one_Pg sc ho 80 z false) ?_; replace HM2 := Aside0.mk (And.intro HM2.out.1 (mp_row HM2.out.2 (show M ≠ k8 by have h1 := HM2.out.2.blk; have h2 := H8.out; intro e; rw [e, h2] at h1; cases h1) (show k8 ≠ T by have h1 := HM2.out.2.tb.blk; have h2 := H8.out; intro e; rw [e, h1] at h2; cases h2) (Ne.symm (mp_own_ne HM2.out.2 H8.out (fun cs fr e => by cases e))) (#[.string sc, .string ho, .int .i64 80, .int .i64 z, .bool false]))); replace H8 := Aside0.mk (row_new (cells := #[.string sc, .string ho, .int .i64 80, .int .i64 z, .bool false]) H8.out); replace HB := Aside0.mk (below_row HB.out HG8.out (#[.string sc, .string ho, .int .i64 80, .int .i64 z, .bool false])); generalize x4.setRow k8 (#[.string sc, .string ho, .int .i64 80, .int .i64 z, .bool false]) = x5 at H8 HM2 HB ⊢))
    refine bodyPost_ret (results_cell_row rfl _ _ k8 58 (#[.string sc, .string ho, .int .i64 80, .int .i64 z, .bool false]) (0, 0) _ rfl H8.out Tryz.underlying58 rfl (info_Pg sc ho 80 z false)) rfl ?_
    exact ⟨rfl, ⟨m, HM2.out.1, HM2.out.2⟩, HB.out⟩
theorem less_below (a b : Int) (r : Bool) (h : space_Less.f a b = some r) (w : World) : Calls Tryz.prog 60 #[.int .i64 a, .int .i64 b] w fun e w1 => e = .returned (.bool r) ∧ Below w.heap.size w w1 :=
  (space_Less.calls a b r w h).mono (fun e w1 ⟨he, nd, hd⟩ => ⟨he, by rw [hd]; exact pw_below_drewN (Below.refl _ _) nd⟩)
set_option maxHeartbeats 8000000 in
set_option maxRecDepth 100000 in
theorem lesser_ex (sc ho : ByteArray) (z y : Int) (hyz : y < z) (M T base : Nat) (sv : Value) (l : List En) (b : Ad) (hb : b.ok) (hof : OfIs M T base sv l b y) (st : Nat) (hst : st ≤ 1000000) (w0 : World) (hT : w0.heap.size ≤ T) (w : World) (hb0 : Below w0.heap.size w0 w) (hm : Mp w M T base (st : Int) sv l) :
    Calls Tryz.prog 34 #[.agg #[.string sc, .string ho, .int .i64 80, .int .i64 z, .bool false], .pointer (some ⟨M, 0, none⟩), .agg (eA b)] w fun e w' => e = .returned (.bool true) ∧ (∃ k : Int, Ticks T 1 w w' k) ∧ Below w0.heap.size w0 w' := by
  have HB := Aside0.mk hb0
  have HTT := Aside0.mk hT
  have HOF := Aside0.mk hof
  have HBO := Aside0.mk hb
  have HM := Aside0.mk hm
  have HST := Aside0.mk hst
  have HTK := Aside0.mk (show ∃ k : Int, Ticks T 1 w w k from ⟨_, ticks_refl hm.tb.blk rfl⟩)
  have HLS := Aside0.mk (show space_Less.f y z = some true by unfold space_Less.f; rw [decide_eq_true hyz])
  clear hb0 hT hof hb hm hst hyz
  go_enter Tryz.func34, Tryz.ntmps34
  go_wp2_with (first
    | ((with_reducible refine gate_dst (N := 3) rfl ?_); refine box_event ?hg (N := 3) ?hd (cs := #[.string sc, .string ho, .int .i64 80, .int .i64 z, .bool false]) (t := 58) ?hr ?_; (case hd => rfl); (case hg => rfl); (case hr => first | (go_simp; done) | (go_simp; rfl)); intro k3 hg w1 hbox hb; have H3 := Aside0.mk hbox; have HG3 := Aside0.mk (show w0.heap.size ≤ k3 by rw [hg]; exact HB.out.size); have HN3 := Aside0.mk (show k3 ≠ T by have := blk_lt HM.out.tb.blk; omega); obtain ⟨kk, hkk⟩ := HTK.out; replace HTK := Aside0.mk (show ∃ k : Int, Ticks T 1 w _ k from ⟨kk, ticks_below hkk hb⟩); clear hkk; replace HM := Aside0.mk (mp_below HM.out hb); replace HB := Aside0.mk (below_step HB.out hb); clear hb hg hbox)
    | ((with_reducible refine gate_dst (N := 5) rfl ?_); refine box_event ?hg (N := 5) ?hd (cs := eA b) (t := 30) ?hr ?_; (case hd => rfl); (case hg => rfl); (case hr => first | (go_simp; done) | (go_simp; rfl)); intro k5 hg w2 hbox hb; have H5 := Aside0.mk hbox; have HG5 := Aside0.mk (show w0.heap.size ≤ k5 by rw [hg]; exact HB.out.size); have HN5 := Aside0.mk (show k5 ≠ T by have := blk_lt HM.out.tb.blk; omega); have HQ3_5 := Aside0.mk (show k3 ≠ k5 by have h1 := (Array.getElem?_eq_some_iff.1 H3.out).1; omega); replace H3 := Aside0.mk (blk_below H3.out hb); obtain ⟨kk, hkk⟩ := HTK.out; replace HTK := Aside0.mk (show ∃ k : Int, Ticks T 1 w _ k from ⟨kk, ticks_below hkk hb⟩); clear hkk; replace HM := Aside0.mk (mp_below HM.out hb); replace HB := Aside0.mk (below_step HB.out hb); clear hb hg hbox))
  obtain ⟨S, hS⟩ : ∃ S : World → Prop, S = fun w' => w'.heap[k3]? = some (.cells #[.string sc, .string ho, .int .i64 80, .int .i64 z, .bool false] 58 (0, 0)) ∧ w'.heap[k5]? = some (.cells (eA b) 30 (0, 0)) := ⟨_, rfl⟩
  have HSx := Aside0.mk (show ∀ x : World, S x → x.heap[k3]? = some (.cells #[.string sc, .string ho, .int .i64 80, .int .i64 z, .bool false] 58 (0, 0)) ∧ x.heap[k5]? = some (.cells (eA b) 30 (0, 0)) by intro b h; rw [hS] at h; exact h)
  have HSi := Aside0.mk (show ∀ x : World, x.heap[k3]? = some (.cells #[.string sc, .string ho, .int .i64 80, .int .i64 z, .bool false] 58 (0, 0)) → x.heap[k5]? = some (.cells (eA b) 30 (0, 0)) → S x by intro b h0 h1; rw [hS]; exact ⟨h0, h1⟩)
  have s0 : S w2.drew := HSi.out _ H3.out H5.out
  have hb := bdrew (Below.refl w2.heap.size w2)
  replace HB := Aside0.mk (bdrew HB.out)
  replace HM := Aside0.mk (mp_below HM.out hb)
  obtain ⟨kk, hkk⟩ := HTK.out
  replace HTK := Aside0.mk (show ∃ k : Int, Ticks T 1 w w2.drew k from ⟨kk, ticks_below hkk hb⟩)
  clear hS hb H3 H5 hkk kk
  refine wp_region_held_drew (S := S) (by kernel_rfl) s0 (fun _ => ?_)
  generalize w2.drew = y0 at s0 HB HM HTK ⊢
  (try simp only [Act.put, List.getElem_toArray, List.getElem_cons_succ, List.getElem_cons_zero, List.setIfInBounds_toArray, List.set_cons_zero, List.set_cons_succ])
  refine wpAnyH_take (i := 0) (v := .pointer (some ⟨M, 0, none⟩)) rfl (by kernel_rfl) (by kernel_rfl) (by kernel_rfl) (fun _ _ _ h => h) (Or.inl ⟨by kernel_rfl, fun w' h => by first | (go_simp; done) | (go_simp; rfl)⟩) s0 ?_
  (try simp only [Act.put, List.getElem_toArray, List.getElem_cons_succ, List.getElem_cons_zero, List.setIfInBounds_toArray, List.set_cons_zero, List.set_cons_succ])
  refine wpAnyH_take (i := 1) (v := .agg (eA b)) rfl (by kernel_rfl) (by kernel_rfl) (by kernel_rfl) (fun _ _ _ h => h) (yields_row (by kernel_rfl) 30 (.tmp 5) rfl k5 rfl 30 (eA b) (0, 0) _ (fun w' h => (HSx.out w' h).2) Tryz.underlying30 rfl (infoE HBO.out)) s0 ?_
  (try simp only [Act.put, List.getElem_toArray, List.getElem_cons_succ, List.getElem_cons_zero, List.setIfInBounds_toArray, List.set_cons_zero, List.set_cons_succ])
  refine wpAnyH_take (i := 3) (v := .pointer (some ⟨k3, 3, none⟩)) rfl (by kernel_rfl) (by kernel_rfl) (by kernel_rfl) (fun _ _ _ h => h) (Or.inl ⟨by kernel_rfl, fun w' h => by first | (go_simp; done) | (go_simp; rfl)⟩) s0 ?_
  (try simp only [Act.put, List.getElem_toArray, List.getElem_cons_succ, List.getElem_cons_zero, List.setIfInBounds_toArray, List.set_cons_zero, List.set_cons_succ])
  refine wpAnyH_take (i := 4) (v := .int .i64 z) rfl (by kernel_rfl) (by kernel_rfl) (by kernel_rfl) (fun _ _ _ h => h) (Or.inl ⟨by kernel_rfl, fun w' h => by have hf := blk_cell (HSx.out w' h).1 3; first | (go_simp; done) | (go_simp; rfl)⟩) s0 ?_
  (try simp only [Act.put, List.getElem_toArray, List.getElem_cons_succ, List.getElem_cons_zero, List.setIfInBounds_toArray, List.set_cons_zero, List.set_cons_succ])
  refine held_step (i := 2) (by kernel_rfl) rfl (by kernel_rfl) (fun K hK => ?_)
  go_wp2_with (go_at_call 15; refine (HOF.out st _ HM.out HST.out).mono ?_; rintro r y1 ⟨rfl, m, hm, htk⟩; have s1 := HSi.out _ (ticks_blk htk (HSx.out _ s0).1 HN3.out) (ticks_blk htk (HSx.out _ s0).2 HN5.out); obtain ⟨kk, hkk⟩ := HTK.out; replace HTK := Aside0.mk (show ∃ k : Int, Ticks T 1 w y1 k from ⟨_, ticks_trans hkk htk⟩); clear hkk; replace HB := Aside0.mk (ticks_new HB.out htk HTT.out (Nat.le_refl _)); clear htk hm)
  refine hK.out _ _ s1 ?_
  clear hK K s0
  (try simp only [Act.put, List.getElem_toArray, List.getElem_cons_succ, List.getElem_cons_zero, List.setIfInBounds_toArray, List.set_cons_zero, List.set_cons_succ])
  refine held_step (i := 5) (by kernel_rfl) rfl (by kernel_rfl) (fun K hK => ?_)
  go_wp2_with (go_at_call 60; refine (less_below y z true HLS.out _).mono ?_; rintro r y2 ⟨rfl, hb⟩; obtain ⟨kk, hkk⟩ := HTK.out; replace HTK := Aside0.mk (show ∃ k : Int, Ticks T 1 w y2 k from ⟨kk, ticks_below hkk hb⟩); clear hkk; have s2 := HSi.out _ (blk_below (HSx.out _ s1).1 hb) (blk_below (HSx.out _ s1).2 hb); replace HB := Aside0.mk (below_step HB.out hb); clear hb)
  refine hK.out _ _ s2 ?_
  clear hK K s1
  (try simp only [Act.put, List.getElem_toArray, List.getElem_cons_succ, List.getElem_cons_zero, List.setIfInBounds_toArray, List.set_cons_zero, List.set_cons_succ])
  refine wpAnyH_take (i := 6) (v := .bool true) rfl (by kernel_rfl) (by kernel_rfl) (by kernel_rfl) (fun _ _ _ h => h) (Or.inl ⟨by kernel_rfl, fun w' h => by first | (go_simp; done) | (go_simp; rfl)⟩) s2 ?_
  (try simp only [Act.put, List.getElem_toArray, List.getElem_cons_succ, List.getElem_cons_zero, List.setIfInBounds_toArray, List.set_cons_zero, List.set_cons_succ])
  refine wpAnyH_done (by kernel_rfl) ?_ _
  go_wp2
  go_ret
  exact ⟨rfl, HTK.out, HB.out⟩
set_option maxHeartbeats 8000000 in
set_option maxRecDepth 100000 in
theorem judge_ex (sc ho : ByteArray) (z y : Int) (hyz : y < z) (M T base : Nat) (sv : Value) (l : List En) (b : Ad) (hb : b.ok) (hof : OfIs M T base sv l b y) (st : Nat) (hst : st ≤ 1000000) (w0 : World) (hT : w0.heap.size ≤ T) (w : World) (hb0 : Below w0.heap.size w0 w) (hm : Mp w M T base (st : Int) sv l) :
    Calls Tryz.prog 19 #[.agg #[.string sc, .string ho, .int .i64 80, .int .i64 z, .bool false], .pointer (some ⟨M, 0, none⟩), .agg (eA b)] w fun e w' => e = .returned (.int .i64 2) ∧ (∃ k : Int, Ticks T 1 w w' k) ∧ Below w0.heap.size w0 w' := by
  have HB := Aside0.mk hb0
  have HTT := Aside0.mk hT
  have HBO := Aside0.mk hb
  have HM := Aside0.mk hm
  have HTK := Aside0.mk (show ∃ k : Int, Ticks T 1 w w k from ⟨_, ticks_refl hm.tb.blk rfl⟩)
  have HLE := Aside0.mk (fun w hb0 hm => lesser_ex sc ho z y hyz M T base sv l b hb hof st hst w0 hT w hb0 hm)
  clear hb0 hT hof hb hm hst hyz
  go_enter Tryz.func19, Tryz.ntmps19
  go_wp2_with (first
    | ((with_reducible refine gate_dst (N := 3) rfl ?_); refine box_event ?hg (N := 3) ?hd (cs := #[.string sc, .string ho, .int .i64 80, .int .i64 z, .bool false]) (t := 58) ?hr ?_; (case hd => rfl); (case hg => rfl); (case hr => first | (go_simp; done) | (go_simp; rfl)); intro k3 hg w1 hbox hb; have H3 := Aside0.mk hbox; have HG3 := Aside0.mk (show w0.heap.size ≤ k3 by rw [hg]; exact HB.out.size); have HN3 := Aside0.mk (show k3 ≠ T by have := blk_lt HM.out.tb.blk; omega); obtain ⟨kk, hkk⟩ := HTK.out; replace HTK := Aside0.mk (show ∃ k : Int, Ticks T 1 w _ k from ⟨kk, ticks_below hkk hb⟩); clear hkk; replace HM := Aside0.mk (mp_below HM.out hb); replace HB := Aside0.mk (below_step HB.out hb); clear hb hg hbox)
    | ((with_reducible refine gate_dst (N := 5) rfl ?_); refine box_event ?hg (N := 5) ?hd (cs := eA b) (t := 30) ?hr ?_; (case hd => rfl); (case hg => rfl); (case hr => first | (go_simp; done) | (go_simp; rfl)); intro k5 hg w2 hbox hb; have H5 := Aside0.mk hbox; have HG5 := Aside0.mk (show w0.heap.size ≤ k5 by rw [hg]; exact HB.out.size); have HN5 := Aside0.mk (show k5 ≠ T by have := blk_lt HM.out.tb.blk; omega); have HQ3_5 := Aside0.mk (show k3 ≠ k5 by have h1 := (Array.getElem?_eq_some_iff.1 H3.out).1; omega); replace H3 := Aside0.mk (blk_below H3.out hb); obtain ⟨kk, hkk⟩ := HTK.out; replace HTK := Aside0.mk (show ∃ k : Int, Ticks T 1 w _ k from ⟨kk, ticks_below hkk hb⟩); clear hkk; replace HM := Aside0.mk (mp_below HM.out hb); replace HB := Aside0.mk (below_step HB.out hb); clear hb hg hbox)
    | ((with_reducible refine gate_dst (N := 8) rfl ?_); refine wpList_load_row rfl 58 (.tmp 3) rfl k3 rfl 58 (#[.string sc, .string ho, .int .i64 80, .int .i64 z, .bool false]) (0, 0) _ H3.out Tryz.underlying58 rfl (info_Pg sc ho 80 z false) ?_)
    | ((with_reducible refine gate_dst (N := 10) rfl ?_); refine wpList_load_row rfl 30 (.tmp 5) rfl k5 rfl 30 (eA b) (0, 0) _ H5.out Tryz.underlying30 rfl (infoE HBO.out) ?_)
    | (go_at_call 34; refine (HLE.out _ HB.out HM.out).mono ?_; rintro r w3 ⟨rfl, hb⟩; obtain ⟨⟨kk, htk⟩, hb2⟩ := hb; replace H3 := Aside0.mk (ticks_blk htk H3.out HN3.out); obtain ⟨k0, hk0⟩ := HTK.out; replace HTK := Aside0.mk (show ∃ k : Int, Ticks T 1 w w3 k from ⟨_, ticks_trans hk0 htk⟩); clear hk0; have hf4 := blk_cell H3.out 4; clear htk; replace HB := Aside0.mk hb2))
  go_ret
  exact ⟨rfl, HTK.out, HB.out⟩
/-! ### the example -/
theorem ofIs_def (M T base : Nat) (sv : Value) (b : Ad) (hb : b.ok) (z : Int) (hz : spOf defL b = z) : OfIs M T base sv defL b z := fun st w hm hst => by
  have := map_Of M T base st sv defL b hb w hm fine_def.sorted (Nat.le_trans fine_def.len (by decide)) hst
  rw [hz] at this
  exact this
theorem sp_ex1 : spOf defL (of4 134744072) = 2 := by decide +kernel
theorem sp_ex2 : spOf defL (of4 167772161) = 1 := by decide +kernel
theorem exS_secure (w : World) (hmx : MaxIs w) : Calls Tryz.prog 32 #[.agg #[.string exS, .string exH, .int .i64 80]] w fun e w' => e = .returned (.bool false) ∧ Below w.heap.size w w' :=
  secure_no exS exH (by decide +kernel) exH_literal (fun w h => exH_local w h) w hmx
set_option maxHeartbeats 8000000 in
set_option maxRecDepth 100000 in
theorem lives16 (w : World) (hmx : MaxIs w) : Calls Tryz.prog 8 #[] w fun e w' => e = .returned (.bool true) ∧ Below w.heap.size w w' := by
  have HB := Aside0.mk (Below.refl w.heap.size w)
  have HMX := Aside0.mk hmx
  clear hmx
  have HSC := Aside0.mk exS_secure
  have HLT := Aside0.mk (Nat.le_refl w.heap.size)
  have HX := Aside0.mk (show (⟨#[104, 116, 116, 112]⟩ : ByteArray) = exS ∧ (⟨#[97, 46, 116, 101, 115, 116]⟩ : ByteArray) = exH from ⟨rfl, rfl⟩)
  obtain ⟨b1, hb1⟩ : ∃ b, of4 134744072 = b := ⟨_, rfl⟩
  obtain ⟨b2, hb2⟩ : ∃ b, of4 167772161 = b := ⟨_, rfl⟩
  have HO1 := Aside0.mk (fun w => ref04_Of4 134744072 w)
  have HO2 := Aside0.mk (fun w => ref04_Of4 167772161 w)
  have HB1 := Aside0.mk (show b1.ok by rw [← hb1]; exact ok_of4 _)
  have HB2 := Aside0.mk (show b2.ok by rw [← hb2]; exact ok_of4 _)
  have HS1 := Aside0.mk (show spOf defL b1 = 2 by rw [← hb1]; exact sp_ex1)
  have HS2 := Aside0.mk (show spOf defL b2 = 1 by rw [← hb2]; exact sp_ex2)
  rw [hb1] at HO1
  rw [hb2] at HO2
  clear hb1 hb2
  go_enter Tryz.func8, Tryz.ntmps8
  go_wp2_with (first
    | (go_at_call 9; refine (space_Default _ (maxis_below HMX.out HB.out)).mono ?_; rintro r w1 ⟨M, sv, rfl, hz, hm, hb⟩; obtain ⟨T, hT⟩ : ∃ T, w.heap.size = T := ⟨_, rfl⟩; replace HLT := Aside0.mk (show w.heap.size ≤ T from Nat.le_of_eq hT); have HM := Aside0.mk (show Mp w1 M T T ((0 : Nat) : Int) sv defL by rw [← hT]; exact hm); replace HB := Aside0.mk (below_step HB.out hb); clear hb hm hz hT)
    | ((with_reducible refine gate_dst (N := 6) rfl ?_); refine wpList_buildTo rfl 61 _ rfl _ rfl (#[.string exS, .string exH, .int .i64 80, .string ⟨#[47]⟩, .string ⟨#[]⟩]) ?hbb ?_; (case hbb => kernel_rfl))
    | (go_at_call 13; refine (HO1.out _).mono ?_; rintro r w2 ⟨rfl, hb⟩; replace HM := Aside0.mk (mp_below HM.out hb); replace HB := Aside0.mk (below_step HB.out hb); clear hb HO1)
    | (go_at_call 18; refine (make_ex exS exH ⟨#[47]⟩ ⟨#[]⟩ 2 M T T sv defL b1 HB1.out w HMX.out HLT.out HSC.out (ofIs_def M T T sv b1 HB1.out 2 HS1.out) _ HB.out HM.out).mono ?_; rintro r w3 ⟨rfl, hmm, hb⟩; obtain ⟨m, hm1, hm2⟩ := hmm; have HST := Aside0.mk (show 0 + m ≤ 1000000 by have h1 := blen_le defL.length; have h2 := fine_def.len; omega); replace HM := Aside0.mk hm2; replace HB := Aside0.mk hb; clear hb hm1 hm2)
    | ((with_reducible refine gate_dst (N := 2) rfl ?_); refine box_event ?hg (N := 2) ?hd (cs := #[.string ⟨#[]⟩, .string ⟨#[]⟩, .int .i64 0, .int .i64 0, .bool false]) (t := 58) ?hr ?_; (case hd => rfl); (case hg => rfl); (case hr => first | (go_simp; done) | (go_simp; rfl)); intro k2 hg w4 hbox hb; have H2 := Aside0.mk hbox; have HG2 := Aside0.mk (show w.heap.size ≤ k2 by rw [hg]; exact HB.out.size); have HN2 := Aside0.mk (show k2 ≠ T by have := blk_lt HM.out.tb.blk; omega); replace HM := Aside0.mk (mp_below HM.out hb); replace HB := Aside0.mk (below_step HB.out hb); clear hb hg hbox)
    | ((with_reducible refine gate_store (t := 58) (p := 2) rfl ?_); refine wpList_store_row rfl 58 (.tmp 2) (.tmp 9) rfl k2 (#[.string exS, .string exH, .int .i64 80, .int .i64 2, .bool false]) rfl rfl 58 (#[.string ⟨#[]⟩, .string ⟨#[]⟩, .int .i64 0, .int .i64 0, .bool false]) H2.out (info_Pg exS exH 80 2 false) rfl (one_Pg exS exH 80 2 false) ?_; replace HM := Aside0.mk (mp_row HM.out (show M ≠ k2 by have h1 := HM.out.blk; have h2 := H2.out; intro e; rw [e, h2] at h1; cases h1) HN2.out (Ne.symm (mp_own_ne HM.out H2.out (fun cs fr e => by cases e))) (#[.string exS, .string exH, .int .i64 80, .int .i64 2, .bool false])); replace H2 := Aside0.mk (row_new (cells := #[.string exS, .string exH, .int .i64 80, .int .i64 2, .bool false]) H2.out); replace HB := Aside0.mk (below_row HB.out HG2.out (#[.string exS, .string exH, .int .i64 80, .int .i64 2, .bool false])); generalize w4.setRow k2 (#[.string exS, .string exH, .int .i64 80, .int .i64 2, .bool false]) = w5 at H2 HM HB ⊢))
  obtain ⟨S, hS⟩ : ∃ S : World → Prop, S = fun w' => w'.heap[k2]? = some (.cells #[.string exS, .string exH, .int .i64 80, .int .i64 2, .bool false] 58 (0, 0)) := ⟨_, rfl⟩
  have HSx := Aside0.mk (show ∀ x : World, S x → x.heap[k2]? = some (.cells #[.string exS, .string exH, .int .i64 80, .int .i64 2, .bool false] 58 (0, 0)) by intro b h; rw [hS] at h; exact h)
  have HSi := Aside0.mk (show ∀ x : World, x.heap[k2]? = some (.cells #[.string exS, .string exH, .int .i64 80, .int .i64 2, .bool false] 58 (0, 0)) → S x by intro b h0; rw [hS]; exact h0)
  have s0 : S w5.drew := HSi.out _ H2.out
  have hb := bdrew (Below.refl w5.heap.size w5)
  replace HB := Aside0.mk (bdrew HB.out)
  replace HM := Aside0.mk (mp_below HM.out hb)
  clear hS hb H2
  refine wp_region_held_drew (S := S) (by kernel_rfl) s0 (fun _ => ?_)
  generalize w5.drew = y0 at s0 HB HM ⊢
  (try simp only [Act.put, List.getElem_toArray, List.getElem_cons_succ, List.getElem_cons_zero, List.setIfInBounds_toArray, List.set_cons_zero, List.set_cons_succ])
  refine wpAnyH_take (i := 0) (v := .agg #[.string exS, .string exH, .int .i64 80, .int .i64 2, .bool false]) rfl (by kernel_rfl) (by kernel_rfl) (by kernel_rfl) (fun _ _ _ h => h) (yields_row (by kernel_rfl) 58 (.tmp 2) rfl k2 rfl 58 (#[.string exS, .string exH, .int .i64 80, .int .i64 2, .bool false]) (0, 0) _ (fun w' h => (HSx.out w' h)) Tryz.underlying58 rfl (info_Pg exS exH 80 2 false)) s0 ?_
  (try simp only [Act.put, List.getElem_toArray, List.getElem_cons_succ, List.getElem_cons_zero, List.setIfInBounds_toArray, List.set_cons_zero, List.set_cons_succ])
  refine wpAnyH_take (i := 1) (v := .pointer (some ⟨M, 0, none⟩)) rfl (by kernel_rfl) (by kernel_rfl) (by kernel_rfl) (fun _ _ _ h => h) (Or.inl ⟨by kernel_rfl, fun w' h => by first | (go_simp; done) | (go_simp; rfl)⟩) s0 ?_
  (try simp only [Act.put, List.getElem_toArray, List.getElem_cons_succ, List.getElem_cons_zero, List.setIfInBounds_toArray, List.set_cons_zero, List.set_cons_succ])
  refine held_step (i := 2) (by kernel_rfl) rfl (by kernel_rfl) (fun K hK => ?_)
  go_wp2_with (go_at_call 13; refine (HO2.out _).mono ?_; rintro r y1 ⟨rfl, hb⟩; have s1 := HSi.out _ (blk_below (HSx.out _ s0) hb); replace HM := Aside0.mk (mp_below HM.out hb); replace HB := Aside0.mk (below_step HB.out hb); clear hb)
  refine hK.out _ _ s1 ?_
  clear hK K s0
  (try simp only [Act.put, List.getElem_toArray, List.getElem_cons_succ, List.getElem_cons_zero, List.setIfInBounds_toArray, List.set_cons_zero, List.set_cons_succ])
  refine held_step (i := 3) (by kernel_rfl) rfl (by kernel_rfl) (fun K hK => ?_)
  go_wp2_with (go_at_call 19; refine (judge_ex exS exH 2 1 (by decide) M T T sv defL b2 HB2.out (ofIs_def M T T sv b2 HB2.out 1 HS2.out) (0 + m) HST.out w HLT.out _ HB.out HM.out).mono ?_; rintro r y2 ⟨rfl, ⟨kk, htk⟩, hb⟩; have s2 := HSi.out _ (ticks_blk htk (HSx.out _ s1) HN2.out); replace HB := Aside0.mk hb; clear hb htk)
  refine hK.out _ _ s2 ?_
  clear hK K s1
  (try simp only [Act.put, List.getElem_toArray, List.getElem_cons_succ, List.getElem_cons_zero, List.setIfInBounds_toArray, List.set_cons_zero, List.set_cons_succ])
  refine wpAnyH_take (i := 4) (v := .bool true) rfl (by kernel_rfl) (by kernel_rfl) (by kernel_rfl) (fun _ _ _ h => h) (Or.inl ⟨by kernel_rfl, fun w' h => by first | (go_simp; done) | (go_simp; rfl)⟩) s2 ?_
  (try simp only [Act.put, List.getElem_toArray, List.getElem_cons_succ, List.getElem_cons_zero, List.setIfInBounds_toArray, List.set_cons_zero, List.set_cons_succ])
  refine wpAnyH_take (i := 5) (v := .bool true) rfl (by kernel_rfl) (by kernel_rfl) (by kernel_rfl) (fun _ _ _ h => h) (Or.inl ⟨by kernel_rfl, fun w' h => by first | (go_simp; done) | (go_simp; rfl)⟩) s2 ?_
  (try simp only [Act.put, List.getElem_toArray, List.getElem_cons_succ, List.getElem_cons_zero, List.setIfInBounds_toArray, List.set_cons_zero, List.set_cons_succ])
  refine wpAnyH_done (by kernel_rfl) ?_ _
  go_wp2
  go_ret
  exact ⟨rfl, HB.out⟩
end Go.Proofs.YthdognlkacjkhaaGreatDoor.P
