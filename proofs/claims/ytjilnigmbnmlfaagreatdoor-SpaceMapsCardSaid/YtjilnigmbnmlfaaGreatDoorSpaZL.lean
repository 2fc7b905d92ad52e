/-
  Law SpaceMaps, twelve entries at most.
-/
import Derived.Test.YtjilnigmbnmlfaaGreatDoorSpaZ
namespace Go.Proofs.YtjilnigmbnmlfaaGreatDoor.P
open Go.RowKit Go.Proofs.YtjilnigmbnmlfaaGreatDoorW.PrintWords Go.Proofs.YtjilnigmbnmlfaaGreatDoorW.PrintLast Go.Proofs.YtjilnigmbnmlfaaGreatDoorW.PrintMore
set_option linter.unusedVariables false
set_option linter.unusedSimpArgs false
set_option maxHeartbeats 16000000 in
set_option maxRecDepth 100000 in
theorem law_Maps_le (A : Option Addr) (n cap : Nat) (L : List En) (p : Pf) (hp : p.a.ok) (s : Int) (a : Ad) (ha : a.ok) (w : World) (hmx : MaxIs w) (hrd : RdT w A n cap L) (h12 : ¬ 12 < n) :
    Calls Tryz.prog 4 #[.slice A n cap, .agg (eP p), .int .i64 s, .agg (eA a)] w fun r w' => r = .returned (.bool true) ∧ Below w.heap.size w w' := by
  have HB := Aside0.mk (Below.refl w.heap.size w)
  have HMX := Aside0.mk hmx
  have HP := Aside0.mk hp
  have HA := Aside0.mk ha
  have HRD := Aside0.mk hrd
  have HALL := Aside0.mk (show ∀ e ∈ L, e.p.a.ok from fun x hx => by
    obtain ⟨i, hi⟩ := List.getElem?_of_mem hx
    obtain ⟨_, _, _, _, h⟩ := hrd.at_ i x hi
    exact h)
  have HR5 := Aside0.mk (fun w => ref04_Good a ha w)
  have HOB := Aside0.mk (ok_goodA ha)
  have HMB := Aside0.mk (goodA_may ha)
  obtain ⟨b, hb⟩ : ∃ b, goodA a = b := ⟨_, rfl⟩
  rw [hb] at HR5 HOB HMB
  have HMK := Aside0.mk (fun w => ref05_Mask b HOB.out (bitsOf b.fam) w)
  have HOO := Aside0.mk (ok_maskP b (bitsOf b.fam))
  have HMO := Aside0.mk (show mayQ (maskP b (bitsOf b.fam)) = true by rw [may_same HOO.out]; exact may_maskP HMB.out.1 HMB.out.2 _)
  have HSPO := Aside0.mk (fun (l : List En) (n : Nat) (hF : Fine l n) (hu : unmapA b = b) => sp_own hF HOB.out HMB.out hu)
  obtain ⟨own, hown⟩ : ∃ own, maskP b (bitsOf b.fam) = own := ⟨_, rfl⟩
  rw [hown] at HMK HOO HMO HSPO
  clear hown hb hmx hp ha hrd
  have e0n : decide (12 < n) = false := decide_eq_false h12
  have e0 : decide ((12 : Int) < (n : Int)) = false := decide_eq_false (by omega)
  have HRL := Aside0.mk (show RdT w A n cap L from HRD.out)
  have HLL := Aside0.mk (show n ≤ 900 by omega)
  have HALL2 := HALL
  obtain ⟨L0, hL0⟩ : ∃ L0, L = L0 := ⟨_, rfl⟩
  rw [hL0] at HRL HALL2
  clear hL0
  have HFL := Aside0.mk (fine_newS L0 (fun x hx => HALL2.out x hx))
  have HLN := Aside0.mk (show (newS L0).length ≤ 900 by have h1 := HFL.out.len; have h2 := HRL.out.len; have h3 := HLL.out; omega)
  obtain ⟨l, hl⟩ : ∃ l, newS L0 = l := ⟨_, rfl⟩
  rw [hl] at HFL HLN
  obtain ⟨s0, hs0⟩ : ∃ s0, spOf l b = s0 := ⟨_, rfl⟩
  have HOF0 := Aside0.mk (fun (M T base : Nat) (sv : Value) (w : World) (hm : Mp w M T base ((0 : Nat) : Int) sv l) => map_Of M T base 0 sv l b HOB.out w hm HFL.out.sorted (by have := HLN.out; omega) (by decide))
  have HRF := Aside0.mk (fun (u : Value) (w : World) (ho : Ow w u l) => ref07_Of u l _ HFL.out (by have := HLN.out; omega) b HOB.out HMB.out w ho)
  rw [hs0] at HOF0 HRF
  have HF2 := Aside0.mk (fine_addS HFL.out HP.out s)
  have HLN2 := Aside0.mk (show (addS l p s).length ≤ 1000 by have h1 := HF2.out.len; have h2 := HRL.out.len; have h3 := HLL.out; omega)
  obtain ⟨l2, hl2⟩ : ∃ l2, addS l p s = l2 := ⟨_, rfl⟩
  obtain ⟨er, her⟩ : ∃ er, erS p s = er := ⟨_, rfl⟩
  have HL2 := Aside0.mk hl2.symm
  have HER := Aside0.mk her.symm
  rw [hl2] at HF2 HLN2
  obtain ⟨s2, hs2⟩ : ∃ s2, spOf l2 b = s2 := ⟨_, rfl⟩
  have HOF2 := Aside0.mk (fun (M T base : Nat) (st : Nat) (sv : Value) (w : World) (hm : Mp w M T base (st : Int) sv l2) (hst : st ≤ 1000000) => map_Of M T base st sv l2 b HOB.out w hm HF2.out.sorted HLN2.out hst)
  have HRF2 := Aside0.mk (fun (u : Value) (w : World) (ho : Ow w u l2) => ref07_Of u l2 _ HF2.out HLN2.out b HOB.out HMB.out w ho)
  rw [hs2] at HOF2 HRF2
  obtain ⟨l3, hl3⟩ : ∃ l3, setE l2 own 0 = l3 := ⟨_, rfl⟩
  have HF3 := Aside0.mk (fine_setE HF2.out HOO.out HMO.out 0)
  have HSP3 := Aside0.mk (fun (hu : unmapA b = b) => HSPO.out l2 _ HF2.out hu)
  rw [hl3] at HF3 HSP3
  have HL3 := Aside0.mk (show l3 = addS l2 own 0 by rw [addS_in (by decide) HMO.out, hl3])
  have HE3 := Aside0.mk (show (0 : Int) = erS own 0 by rw [erS_in (by decide) HMO.out])
  have HLN3 := Aside0.mk (show l3.length ≤ 1000 by have h0 := HF3.out.len; have h2 := HRL.out.len; have h3 := HLL.out; omega)
  have HL := Aside0.mk hl
  clear hl hs0 hl2 her hs2 hl3
  go_enter Tryz.func4, Tryz.ntmps4
  go_wp2_with (first
    | ((with_reducible refine gate_dst (N := 5) rfl ?_); refine box_event ?hg (N := 5) ?hd (cs := eP p) (t := 40) ?hr ?_; (case hd => rfl); (case hg => rfl); (case hr => first | (go_simp; done) | (go_simp; rfl)); intro k5 hg w1 hbox hb; have H5 := Aside0.mk hbox; have HG5 := Aside0.mk (show w.heap.size ≤ k5 by rw [hg]; exact HB.out.size); replace HB := Aside0.mk (below_step HB.out hb); clear hb hg hbox)
    | ((with_reducible refine gate_dst (N := 7) rfl ?_); refine box_event ?hg (N := 7) ?hd (cs := eA a) (t := 24) ?hr ?_; (case hd => rfl); (case hg => rfl); (case hr => first | (go_simp; done) | (go_simp; rfl)); intro k7 hg w2 hbox hb; have H7 := Aside0.mk hbox; have HG7 := Aside0.mk (show w.heap.size ≤ k7 by rw [hg]; exact HB.out.size); have H57 := Aside0.mk (show k5 ≠ k7 by have h1 := (Array.getElem?_eq_some_iff.1 H5.out).1; omega); replace H5 := Aside0.mk (blk_below H5.out hb); replace HB := Aside0.mk (below_step HB.out hb); clear hb hg hbox)
    | ((with_reducible refine gate_dst (N := 18) rfl ?_); refine wpList_load_row rfl 24 (.tmp 7) rfl k7 rfl 24 (eA a) (0, 0) _ H7.out Tryz.underlying24 rfl (infoE HA.out) ?_)
    | (go_at_call 5; refine (HR5.out _).mono ?_; rintro r w3 ⟨rfl, hb⟩; replace H5 := Aside0.mk (blk_below H5.out hb); replace H7 := Aside0.mk (blk_below H7.out hb); replace HB := Aside0.mk (below_step HB.out hb); clear hb)
    | ((with_reducible refine gate_store (t := 24) (p := 7) rfl ?_); refine wpList_store_row rfl 24 (.tmp 7) (.tmp 19) rfl k7 (eA b) rfl rfl 24 (eA a) H7.out (infoE HOB.out) ((eA_size HA.out).trans (eA_size HOB.out).symm) (eA_one _) ?_; replace H7 := Aside0.mk (row_new (cells := eA b) H7.out); replace H5 := Aside0.mk ((row_far (cells := eA b) H57.out).trans H5.out); replace HB := Aside0.mk (below_row HB.out HG7.out (eA b)); generalize w3.setRow k7 (eA b) = w4 at H5 H7 HB ⊢)
    | (go_at_call 12; refine (space_New A n cap L0 _ (rdT_below HRL.out HB.out) HLL.out).mono ?_; rintro r w5 ⟨M, sv, rfl, hz, hm, hb⟩; rw [HL.out] at hm; obtain ⟨T, hT⟩ : ∃ T, w4.heap.size = T := ⟨_, rfl⟩; have HLT := Aside0.mk (show k5 < T ∧ k7 < T ∧ w.heap.size ≤ T ∧ T ≤ M from ⟨by rw [← hT]; exact (Array.getElem?_eq_some_iff.1 H5.out).1, by rw [← hT]; exact (Array.getElem?_eq_some_iff.1 H7.out).1, by rw [← hT]; exact HB.out.size, by rw [← hT]; exact hz⟩); rw [hT] at hm; have HM := Aside0.mk hm; replace H5 := Aside0.mk (blk_below H5.out hb); replace H7 := Aside0.mk (blk_below H7.out hb); replace HB := Aside0.mk (below_step HB.out hb); clear hb hm hz hT))
  have HNK := Aside0.mk (show k5 ≠ T ∧ k7 ≠ T by have h1 := HLT.out; omega)
  go_loopw [10, 11] (fun v10 v11 wr => ∃ (i : Nat) (u : Value), u = v10 ∧ v11 = .int .i64 (i : Int) ∧ Aside0 (i ≤ n) ∧ Aside0 (Ow wr u (newS (L0.take i))) ∧ Aside0 (Mp wr M T T 0 sv l) ∧ Aside0 (wr.heap[k5]? = some (.cells (eP p) 40 (0, 0))) ∧ Aside0 (wr.heap[k7]? = some (.cells (eA b) 24 (0, 0))) ∧ Aside0 (Below w.heap.size w wr)) (fun _ v11 _ => n - (intOf v11).toNat)
  case atStart => exact ⟨0, _, rfl, rfl, ⟨Nat.zero_le _⟩, ⟨ow_nil _⟩, HM, H5, H7, HB⟩
  case round =>
    clear HM H5 H7 HB
    obtain ⟨i, u, rfl, rfl, HI, HOW, HM, H5, H7, HB⟩ := hrel
    have HLN0 := Aside0.mk HRL.out.len
    by_cases hi : i < n
    · have f0 : decide ((i : Int) < (n : Int)) = true := decide_eq_true (by omega)
      have f0n : decide (i < n) = true := decide_eq_true hi
      obtain ⟨e, he⟩ : ∃ e, L0[i]? = some e := ⟨L0[i]'(by have := HLN0.out; omega), List.getElem?_eq_getElem _⟩
      obtain ⟨G, o, hidx, hrg, heok⟩ := HRL.out.at_ i e he
      have hix := fun w => hidx w n cap hi
      have HRG := Aside0.mk (range_below hrg HB.out)
      have HEO := Aside0.mk heok
      have HFI := Aside0.mk (fine_newS (L0.take i) (fun x hx => HALL2.out x (List.mem_of_mem_take hx)))
      have hlt : (L0.take i).length ≤ i := by rw [List.length_take]; exact Nat.min_le_left _ _
      have HLI := Aside0.mk (show (newS (L0.take i)).length ≤ 1000 by have h1 := HFI.out.len; have := HLL.out; omega)
      clear hlt
      have HSN := Aside0.mk (show newS (L0.take (i + 1)) = addS (newS (L0.take i)) e.p e.v by rw [List.take_add_one, he]; exact newS_snoc _ e)
      have E1 := Aside0.mk (wrap_up6 i (by have := HLL.out; omega))
      clear he hidx hrg heok
      go_wp2
      obtain ⟨S, hS⟩ : ∃ S : World → Prop, S = fun w' => w'.rangeAt G o (lE e) := ⟨_, rfl⟩
      have HSx := Aside0.mk (show ∀ x : World, S x → x.rangeAt G o (lE e) by intro b h; rw [hS] at h; exact h)
      have HSi := Aside0.mk (show ∀ x : World, x.rangeAt G o (lE e) → S x by intro b h; rw [hS]; exact h)
      have s0 : S wr.drew := HSi.out _ HRG.out
      have hb := bdrew (Below.refl wr.heap.size wr)
      replace HB := Aside0.mk (bdrew HB.out)
      replace HM := Aside0.mk (mp_below HM.out hb)
      replace HOW := Aside0.mk (ow_below HOW.out hb)
      replace H5 := Aside0.mk (blk_below H5.out hb)
      replace H7 := Aside0.mk (blk_below H7.out hb)
      clear hS hb HRG
      refine wp_region_held_drew (S := S) (by kernel_rfl) s0 (fun _ => ?_)
      generalize wr.drew = y0 at s0 HB HM HOW H5 H7 ⊢
      (try simp only [Act.put, List.getElem_toArray, List.getElem_cons_succ, List.getElem_cons_zero, List.setIfInBounds_toArray, List.set_cons_zero, List.set_cons_succ])
      refine wpAnyH_take (i := 0) (v := u) rfl (by kernel_rfl) (by kernel_rfl) (by kernel_rfl) (fun _ _ _ h => h) (Or.inl ⟨by kernel_rfl, fun w' h => by first | (go_simp; done) | (go_simp; rfl)⟩) s0 ?_
      (try simp only [Act.put, List.getElem_toArray, List.getElem_cons_succ, List.getElem_cons_zero, List.setIfInBounds_toArray, List.set_cons_zero, List.set_cons_succ])
      refine wpAnyH_take (i := 1) (v := .slice A n cap) rfl (by kernel_rfl) (by kernel_rfl) (by kernel_rfl) (fun _ _ _ h => h) (Or.inl ⟨by kernel_rfl, fun w' h => by first | (go_simp; done) | (go_simp; rfl)⟩) s0 ?_
      (try simp only [Act.put, List.getElem_toArray, List.getElem_cons_succ, List.getElem_cons_zero, List.setIfInBounds_toArray, List.set_cons_zero, List.set_cons_succ])
      refine wpAnyH_take (i := 2) (v := .int .i64 (i : Int)) rfl (by kernel_rfl) (by kernel_rfl) (by kernel_rfl) (fun _ _ _ h => h) (Or.inl ⟨by kernel_rfl, fun w' h => by first | (go_simp; done) | (go_simp; rfl)⟩) s0 ?_
      (try simp only [Act.put, List.getElem_toArray, List.getElem_cons_succ, List.getElem_cons_zero, List.setIfInBounds_toArray, List.set_cons_zero, List.set_cons_succ])
      refine wpAnyH_take (i := 3) (v := .pointer (some ⟨G, o, none⟩)) rfl (by kernel_rfl) (by kernel_rfl) (by kernel_rfl) (fun _ _ _ h => h) (Or.inl ⟨by kernel_rfl, fun w' h => by have hf := hix w'; first | (go_simp; done) | (go_simp; rfl)⟩) s0 ?_
      (try simp only [Act.put, List.getElem_toArray, List.getElem_cons_succ, List.getElem_cons_zero, List.setIfInBounds_toArray, List.set_cons_zero, List.set_cons_succ])
      refine wpAnyH_take (i := 4) (v := .pointer (some ⟨G, o, none⟩)) rfl (by kernel_rfl) (by kernel_rfl) (by kernel_rfl) (fun _ _ _ h => h) (Or.inl ⟨by kernel_rfl, fun w' h => by first | (go_simp; done) | (go_simp; rfl)⟩) s0 ?_
      (try simp only [Act.put, List.getElem_toArray, List.getElem_cons_succ, List.getElem_cons_zero, List.setIfInBounds_toArray, List.set_cons_zero, List.set_cons_succ])
      refine wpAnyH_take (i := 5) (v := .agg (eP e.p)) rfl (by kernel_rfl) (by kernel_rfl) (by kernel_rfl) (fun _ _ _ h => h) (yieldsIf_load_mid (by kernel_rfl) 40 (.tmp 40) rfl G o rfl (lP e.p) _ (fun w' h => part_pf (HSx.out w' h)) Tryz.underlying40 rfl (infoPf_len HEO.out)) s0 ?_
      (try simp only [Act.put, List.getElem_toArray, List.getElem_cons_succ, List.getElem_cons_zero, List.setIfInBounds_toArray, List.set_cons_zero, List.set_cons_succ])
      refine wpAnyH_take (i := 6) (v := .slice A n cap) rfl (by kernel_rfl) (by kernel_rfl) (by kernel_rfl) (fun _ _ _ h => h) (Or.inl ⟨by kernel_rfl, fun w' h => by first | (go_simp; done) | (go_simp; rfl)⟩) s0 ?_
      (try simp only [Act.put, List.getElem_toArray, List.getElem_cons_succ, List.getElem_cons_zero, List.setIfInBounds_toArray, List.set_cons_zero, List.set_cons_succ])
      refine wpAnyH_take (i := 7) (v := .int .i64 (i : Int)) rfl (by kernel_rfl) (by kernel_rfl) (by kernel_rfl) (fun _ _ _ h => h) (Or.inl ⟨by kernel_rfl, fun w' h => by first | (go_simp; done) | (go_simp; rfl)⟩) s0 ?_
      (try simp only [Act.put, List.getElem_toArray, List.getElem_cons_succ, List.getElem_cons_zero, List.setIfInBounds_toArray, List.set_cons_zero, List.set_cons_succ])
      refine wpAnyH_take (i := 8) (v := .pointer (some ⟨G, o, none⟩)) rfl (by kernel_rfl) (by kernel_rfl) (by kernel_rfl) (fun _ _ _ h => h) (Or.inl ⟨by kernel_rfl, fun w' h => by have hf := hix w'; first | (go_simp; done) | (go_simp; rfl)⟩) s0 ?_
      (try simp only [Act.put, List.getElem_toArray, List.getElem_cons_succ, List.getElem_cons_zero, List.setIfInBounds_toArray, List.set_cons_zero, List.set_cons_succ])
      refine wpAnyH_take (i := 9) (v := .pointer (some ⟨G, o + 18, none⟩)) rfl (by kernel_rfl) (by kernel_rfl) (by kernel_rfl) (fun _ _ _ h => h) (Or.inl ⟨by kernel_rfl, fun w' h => by first | (go_simp; done) | (go_simp; rfl)⟩) s0 ?_
      (try simp only [Act.put, List.getElem_toArray, List.getElem_cons_succ, List.getElem_cons_zero, List.setIfInBounds_toArray, List.set_cons_zero, List.set_cons_succ])
      refine wpAnyH_take (i := 10) (v := .int .i64 e.v) rfl (by kernel_rfl) (by kernel_rfl) (by kernel_rfl) (fun _ _ _ h => h) (Or.inl ⟨by kernel_rfl, fun w' h => by have hf := part_v HEO.out (HSx.out w' h); first | (go_simp; done) | (go_simp; rfl)⟩) s0 ?_
      (try simp only [Act.put, List.getElem_toArray, List.getElem_cons_succ, List.getElem_cons_zero, List.setIfInBounds_toArray, List.set_cons_zero, List.set_cons_succ])
      refine held_step (i := 11) (by kernel_rfl) rfl (by kernel_rfl) (fun K hK => ?_)
      go_wp2_with (go_at_call 13; refine (ref07_Add _ (newS (L0.take i)) _ HFI.out HLI.out e.p HEO.out e.v _ _ HSN.out rfl _ HOW.out).mono ?_; rintro r y1 ⟨u1, rfl, HO1, HB1⟩; have hb := HB1.out; have s1 := HSi.out _ (range_below (HSx.out _ s0) hb); replace HM := Aside0.mk (mp_below HM.out hb); replace H5 := Aside0.mk (blk_below H5.out hb); replace H7 := Aside0.mk (blk_below H7.out hb); replace HB := Aside0.mk (below_step HB.out hb); clear hb HB1)
      refine hK.out _ _ s1 ?_
      clear hK K s0
      (try simp only [Act.put, List.getElem_toArray, List.getElem_cons_succ, List.getElem_cons_zero, List.setIfInBounds_toArray, List.set_cons_zero, List.set_cons_succ])
      refine wpAnyH_take (i := 12) (v := .tuple #[u1, .int .i64 (erS e.p e.v)]) rfl (by kernel_rfl) (by kernel_rfl) (by kernel_rfl) (fun _ _ _ h => h) (Or.inl ⟨by kernel_rfl, fun w' h => by first | (go_simp; done) | (go_simp; rfl)⟩) s1 ?_
      (try simp only [Act.put, List.getElem_toArray, List.getElem_cons_succ, List.getElem_cons_zero, List.setIfInBounds_toArray, List.set_cons_zero, List.set_cons_succ])
      refine wpAnyH_take (i := 13) (v := u1) rfl (by kernel_rfl) (by kernel_rfl) (by kernel_rfl) (fun _ _ _ h => h) (Or.inl ⟨by kernel_rfl, fun w' h => by first | (go_simp; done) | (go_simp; rfl)⟩) s1 ?_
      (try simp only [Act.put, List.getElem_toArray, List.getElem_cons_succ, List.getElem_cons_zero, List.setIfInBounds_toArray, List.set_cons_zero, List.set_cons_succ])
      refine wpAnyH_take (i := 14) (v := .int .i64 (erS e.p e.v)) rfl (by kernel_rfl) (by kernel_rfl) (by kernel_rfl) (fun _ _ _ h => h) (Or.inl ⟨by kernel_rfl, fun w' h => by first | (go_simp; done) | (go_simp; rfl)⟩) s1 ?_
      (try simp only [Act.put, List.getElem_toArray, List.getElem_cons_succ, List.getElem_cons_zero, List.setIfInBounds_toArray, List.set_cons_zero, List.set_cons_succ])
      refine wpAnyH_take (i := 15) (v := u1) rfl (by kernel_rfl) (by kernel_rfl) (by kernel_rfl) (fun _ _ _ h => h) (Or.inl ⟨by kernel_rfl, fun w' h => by first | (go_simp; done) | (go_simp; rfl)⟩) s1 ?_
      (try simp only [Act.put, List.getElem_toArray, List.getElem_cons_succ, List.getElem_cons_zero, List.setIfInBounds_toArray, List.set_cons_zero, List.set_cons_succ])
      refine wpAnyH_take (i := 16) (v := .int .i64 (erS e.p e.v)) rfl (by kernel_rfl) (by kernel_rfl) (by kernel_rfl) (fun _ _ _ h => h) (Or.inl ⟨by kernel_rfl, fun w' h => by first | (go_simp; done) | (go_simp; rfl)⟩) s1 ?_
      (try simp only [Act.put, List.getElem_toArray, List.getElem_cons_succ, List.getElem_cons_zero, List.setIfInBounds_toArray, List.set_cons_zero, List.set_cons_succ])
      refine wpAnyH_done (by kernel_rfl) ?_ _
      clear s1
      go_wp2
      go_roundw
      case rel => exact ⟨i + 1, _, rfl, by first | rfl | exact congrArg (Value.int .i64) E1.out | exact congrArg (Value.int .i64) (by omega), ⟨by omega⟩, HO1, HM, H5, H7, HB⟩
      case measure => exact measure_up n i _ (by first | rfl | exact E1.out | omega) (by omega)
    · have hin : i = n := by have := HI.out; omega
      subst hin
      have f0 : decide ((i : Int) < (i : Int)) = false := decide_eq_false (by omega)
      rw [show L0.take i = L0 from List.take_of_length_le (Nat.le_of_eq HLN0.out), HL.out] at HOW
      obtain ⟨wl, hwl⟩ : ∃ wl, wr = wl := ⟨_, rfl⟩
      subst hwl
      obtain ⟨Au, cu, Gu, rfl, hrdu⟩ := ow_rd HOW.out HFL.out.ok
      clear hrdu
      obtain ⟨nl, hnl⟩ : ∃ n : Nat, l.length = n := ⟨_, rfl⟩
      have HNL := Aside0.mk hnl
      have HOW' := Aside0.mk HOW.out
      rw [hnl]
      replace HOW := Aside0.mk (show Ow wr (.slice Au nl cu) l by rw [← hnl]; exact HOW.out)
      clear hnl HOW'
      go_wp2
      obtain ⟨S, hS⟩ : ∃ S : World → Prop, S = fun w' => w'.heap[k7]? = some (.cells (eA b) 24 (0, 0)) ∧ w'.heap[M]? = some (.cells #[.pointer (some ⟨T, 0, none⟩)] 35 (0, 0)) := ⟨_, rfl⟩
      have HSx := Aside0.mk (show ∀ x : World, S x → x.heap[k7]? = some (.cells (eA b) 24 (0, 0)) ∧ x.heap[M]? = some (.cells #[.pointer (some ⟨T, 0, none⟩)] 35 (0, 0)) by intro b h; rw [hS] at h; exact h)
      have HSi := Aside0.mk (show ∀ x : World, x.heap[k7]? = some (.cells (eA b) 24 (0, 0)) → x.heap[M]? = some (.cells #[.pointer (some ⟨T, 0, none⟩)] 35 (0, 0)) → S x by intro b h0 h1; rw [hS]; exact ⟨h0, h1⟩)
      have s0 : S wr.drew := HSi.out _ H7.out HM.out.blk
      have hb := bdrew (Below.refl wr.heap.size wr)
      replace HB := Aside0.mk (bdrew HB.out)
      replace HM := Aside0.mk (mp_below HM.out hb)
      replace HOW := Aside0.mk (ow_below HOW.out hb)
      replace H5 := Aside0.mk (blk_below H5.out hb)
      clear hS hb H7
      refine wp_region_held_drew (S := S) (by kernel_rfl) s0 (fun _ => ?_)
      generalize wr.drew = y0 at s0 HB HM HOW H5 ⊢
      (try simp only [Act.put, List.getElem_toArray, List.getElem_cons_succ, List.getElem_cons_zero, List.setIfInBounds_toArray, List.set_cons_zero, List.set_cons_succ])
      refine wpAnyH_take (i := 0) (v := .pointer (some ⟨M, 0, none⟩)) rfl (by kernel_rfl) (by kernel_rfl) (by kernel_rfl) (fun _ _ _ h => h) (Or.inl ⟨by kernel_rfl, fun w' h => by first | (go_simp; done) | (go_simp; rfl)⟩) s0 ?_
      (try simp only [Act.put, List.getElem_toArray, List.getElem_cons_succ, List.getElem_cons_zero, List.setIfInBounds_toArray, List.set_cons_zero, List.set_cons_succ])
      refine wpAnyH_take (i := 1) (v := .agg (eA b)) rfl (by kernel_rfl) (by kernel_rfl) (by kernel_rfl) (fun _ _ _ h => h) (yields_row (by kernel_rfl) 24 (.tmp 7) rfl k7 rfl 24 (eA b) (0, 0) _ (fun w' h => (HSx.out w' h).1) Tryz.underlying24 rfl (infoE HOB.out)) s0 ?_
      (try simp only [Act.put, List.getElem_toArray, List.getElem_cons_succ, List.getElem_cons_zero, List.setIfInBounds_toArray, List.set_cons_zero, List.set_cons_succ])
      refine wpAnyH_take (i := 3) (v := .slice Au nl cu) rfl (by kernel_rfl) (by kernel_rfl) (by kernel_rfl) (fun _ _ _ h => h) (Or.inl ⟨by kernel_rfl, fun w' h => by first | (go_simp; done) | (go_simp; rfl)⟩) s0 ?_
      (try simp only [Act.put, List.getElem_toArray, List.getElem_cons_succ, List.getElem_cons_zero, List.setIfInBounds_toArray, List.set_cons_zero, List.set_cons_succ])
      refine wpAnyH_take (i := 4) (v := .agg (eA b)) rfl (by kernel_rfl) (by kernel_rfl) (by kernel_rfl) (fun _ _ _ h => h) (yields_row (by kernel_rfl) 24 (.tmp 7) rfl k7 rfl 24 (eA b) (0, 0) _ (fun w' h => (HSx.out w' h).1) Tryz.underlying24 rfl (infoE HOB.out)) s0 ?_
      (try simp only [Act.put, List.getElem_toArray, List.getElem_cons_succ, List.getElem_cons_zero, List.setIfInBounds_toArray, List.set_cons_zero, List.set_cons_succ])
      refine held_step (i := 2) (by kernel_rfl) rfl (by kernel_rfl) (fun K hK => ?_)
      go_wp2_with (go_at_call 8; refine (HOF0.out _ _ _ _ _ HM.out).mono ?_; rintro r y1 ⟨rfl, m1, hm1, htk⟩; have s1 := HSi.out _ (ticks_blk htk (HSx.out _ s0).1 HNK.out.2) (ticks_blk htk (HSx.out _ s0).2 (mp_ne HM.out)); replace H5 := Aside0.mk (ticks_blk htk H5.out HNK.out.1); replace HOW := Aside0.mk (ow_ticks HM.out.tb HOW.out htk); replace HM := Aside0.mk (mp_ticks HM.out htk); replace HB := Aside0.mk (ticks_new HB.out htk HLT.out.2.2.1 (Nat.le_refl _)); have HST := Aside0.mk (show 0 + m1 ≤ 200000 by have := blen_le l.length; have := HLN.out; omega); clear htk hm1)
      refine hK.out _ _ s1 ?_
      clear hK K s0
      (try simp only [Act.put, List.getElem_toArray, List.getElem_cons_succ, List.getElem_cons_zero, List.setIfInBounds_toArray, List.set_cons_zero, List.set_cons_succ])
      refine held_step (i := 5) (by kernel_rfl) rfl (by kernel_rfl) (fun K hK => ?_)
      go_wp2_with (go_at_call 9; refine (HRF.out _ _ HOW.out).mono ?_; rintro r y2 ⟨rfl, hb⟩; have s2 := HSi.out _ (blk_below (HSx.out _ s1).1 hb) (blk_below (HSx.out _ s1).2 hb); replace HM := Aside0.mk (mp_below HM.out hb); replace HOW := Aside0.mk (ow_below HOW.out hb); replace H5 := Aside0.mk (blk_below H5.out hb); replace HB := Aside0.mk (below_step HB.out hb); clear hb)
      refine hK.out _ _ s2 ?_
      clear hK K s1
      (try simp only [Act.put, List.getElem_toArray, List.getElem_cons_succ, List.getElem_cons_zero, List.setIfInBounds_toArray, List.set_cons_zero, List.set_cons_succ])
      refine wpAnyH_take (i := 6) (v := .bool false) rfl (by kernel_rfl) (by kernel_rfl) (by kernel_rfl) (fun _ _ _ h => h) (Or.inl ⟨by kernel_rfl, fun w' h => by first | (go_simp; done) | (go_simp; rfl)⟩) s2 ?_
      (try simp only [Act.put, List.getElem_toArray, List.getElem_cons_succ, List.getElem_cons_zero, List.setIfInBounds_toArray, List.set_cons_zero, List.set_cons_succ])
      refine wpAnyH_take (i := 7) (v := .bool false) rfl (by kernel_rfl) (by kernel_rfl) (by kernel_rfl) (fun _ _ _ h => h) (Or.inl ⟨by kernel_rfl, fun w' h => by first | (go_simp; done) | (go_simp; rfl)⟩) s2 ?_
      (try simp only [Act.put, List.getElem_toArray, List.getElem_cons_succ, List.getElem_cons_zero, List.setIfInBounds_toArray, List.set_cons_zero, List.set_cons_succ])
      refine wpAnyH_take (i := 8) (v := .pointer (some ⟨M, 0, none⟩)) rfl (by kernel_rfl) (by kernel_rfl) (by kernel_rfl) (fun _ _ _ h => h) (Or.inl ⟨by kernel_rfl, fun w' h => by first | (go_simp; done) | (go_simp; rfl)⟩) s2 ?_
      (try simp only [Act.put, List.getElem_toArray, List.getElem_cons_succ, List.getElem_cons_zero, List.setIfInBounds_toArray, List.set_cons_zero, List.set_cons_succ])
      refine wpAnyH_take (i := 9) (v := .pointer (some ⟨M, 0, none⟩)) rfl (by kernel_rfl) (by kernel_rfl) (by kernel_rfl) (fun _ _ _ h => h) (Or.inl ⟨by kernel_rfl, fun w' h => by first | (go_simp; done) | (go_simp; rfl)⟩) s2 ?_
      (try simp only [Act.put, List.getElem_toArray, List.getElem_cons_succ, List.getElem_cons_zero, List.setIfInBounds_toArray, List.set_cons_zero, List.set_cons_succ])
      refine wpAnyH_take (i := 10) (v := .pointer (some ⟨M, 0, none⟩)) rfl (by kernel_rfl) (by kernel_rfl) (by kernel_rfl) (fun _ _ _ h => h) (Or.inl ⟨by kernel_rfl, fun w' h => by first | (go_simp; done) | (go_simp; rfl)⟩) s2 ?_
      (try simp only [Act.put, List.getElem_toArray, List.getElem_cons_succ, List.getElem_cons_zero, List.setIfInBounds_toArray, List.set_cons_zero, List.set_cons_succ])
      refine wpAnyH_take (i := 11) (v := .pointer (some ⟨T, 0, none⟩)) rfl (by kernel_rfl) (by kernel_rfl) (by kernel_rfl) (fun _ _ _ h => h) (Or.inl ⟨by kernel_rfl, fun w' h => by have hf := blk_cell (HSx.out w' h).2 0; first | (go_simp; done) | (go_simp; rfl)⟩) s2 ?_
      (try simp only [Act.put, List.getElem_toArray, List.getElem_cons_succ, List.getElem_cons_zero, List.setIfInBounds_toArray, List.set_cons_zero, List.set_cons_succ])
      refine wpAnyH_take (i := 13) (v := .slice Au nl cu) rfl (by kernel_rfl) (by kernel_rfl) (by kernel_rfl) (fun _ _ _ h => h) (Or.inl ⟨by kernel_rfl, fun w' h => by first | (go_simp; done) | (go_simp; rfl)⟩) s2 ?_
      (try simp only [Act.put, List.getElem_toArray, List.getElem_cons_succ, List.getElem_cons_zero, List.setIfInBounds_toArray, List.set_cons_zero, List.set_cons_succ])
      refine wpAnyH_take (i := 14) (v := .int .i64 (nl : Int)) rfl (by kernel_rfl) (by kernel_rfl) (by kernel_rfl) (fun _ _ _ h => h) (Or.inl ⟨by kernel_rfl, fun w' h => by first | (go_simp; done) | (go_simp; rfl)⟩) s2 ?_
      (try simp only [Act.put, List.getElem_toArray, List.getElem_cons_succ, List.getElem_cons_zero, List.setIfInBounds_toArray, List.set_cons_zero, List.set_cons_succ])
      refine held_step (i := 12) (by kernel_rfl) rfl (by kernel_rfl) (fun K hK => ?_)
      go_wp2_with (go_at_call 10; refine (table_Len _ _ _ _ l _ HM.out.tb).mono ?_; rintro r y3 ⟨rfl, hb⟩; rw [HNL.out]; have s3 := HSi.out _ (blk_below (HSx.out _ s2).1 hb) (blk_below (HSx.out _ s2).2 hb); replace HM := Aside0.mk (mp_below HM.out hb); replace HOW := Aside0.mk (ow_below HOW.out hb); replace H5 := Aside0.mk (blk_below H5.out hb); replace HB := Aside0.mk (below_step HB.out hb); clear hb)
      refine hK.out _ _ s3 ?_
      clear hK K s2
      (try simp only [Act.put, List.getElem_toArray, List.getElem_cons_succ, List.getElem_cons_zero, List.setIfInBounds_toArray, List.set_cons_zero, List.set_cons_succ])
      refine wpAnyH_take (i := 15) (v := .bool false) rfl (by kernel_rfl) (by kernel_rfl) (by kernel_rfl) (fun _ _ _ h => h) (Or.inl ⟨by kernel_rfl, fun w' h => by first | (go_simp; done) | (go_simp; rfl)⟩) s3 ?_
      (try simp only [Act.put, List.getElem_toArray, List.getElem_cons_succ, List.getElem_cons_zero, List.setIfInBounds_toArray, List.set_cons_zero, List.set_cons_succ])
      refine wpAnyH_take (i := 16) (v := .bool false) rfl (by kernel_rfl) (by kernel_rfl) (by kernel_rfl) (fun _ _ _ h => h) (Or.inl ⟨by kernel_rfl, fun w' h => by first | (go_simp; done) | (go_simp; rfl)⟩) s3 ?_
      (try simp only [Act.put, List.getElem_toArray, List.getElem_cons_succ, List.getElem_cons_zero, List.setIfInBounds_toArray, List.set_cons_zero, List.set_cons_succ])
      refine wpAnyH_done (by kernel_rfl) ?_ _
      have H7 := Aside0.mk (HSx.out _ s3).1
      clear s3 HSx HSi
      go_wp2_with (first
        | ((with_reducible refine gate_dst (N := 70) rfl ?_); refine wpList_load_row rfl 40 (.tmp 5) rfl k5 rfl 40 (eP p) (0, 0) _ H5.out Tryz.underlying40 rfl (infoEP HP.out) ?_)
        | (go_at_call 13; refine (ref07_Add _ l _ HFL.out (by have := HLN.out; omega) p HP.out s l2 er HL2.out HER.out _ HOW.out).mono ?_; rintro r x1 ⟨u2, rfl, HO2, HB1⟩; have hb := HB1.out; replace HM := Aside0.mk (mp_below HM.out hb); replace H5 := Aside0.mk (blk_below H5.out hb); replace H7 := Aside0.mk (blk_below H7.out hb); replace HB := Aside0.mk (below_step HB.out hb); clear hb HB1)
        | ((with_reducible refine gate_dst (N := 76) rfl ?_); refine wpList_load_row rfl 40 (.tmp 5) rfl k5 rfl 40 (eP p) (0, 0) _ H5.out Tryz.underlying40 rfl (infoEP HP.out) ?_)
        | (go_at_call 14; refine (map_Add M T T _ sv l l2 p HP.out s er HER.out HL2.out _ HM.out HFL.out.sorted (by have := HLN.out; omega) (Nat.le_of_lt (blk_lt HM.out.tb.blk))).mono ?_; rintro r x2 ⟨rfl, HM3, HCH⟩; replace H7 := Aside0.mk (chg_keep HCH.out H7.out HNK.out.2 (by decide)); replace HO2 := Aside0.mk (ow_chg HO2.out HM.out.tb.blk HCH.out); replace HB := Aside0.mk (HB.out.trans ((chg_base HCH.out (Nat.le_refl _) (Nat.le_of_lt (blk_lt HM.out.tb.blk))).mono HLT.out.2.2.1)); obtain ⟨sv3, hm3⟩ := HM3.out; replace HM := Aside0.mk hm3; clear hm3 HM3 HCH))
      clear H5
      obtain ⟨Bu, du, Gv, rfl, hrdv⟩ := ow_rd HO2.out HF2.out.ok
      clear hrdv
      obtain ⟨nl2, hnl2⟩ : ∃ n : Nat, l2.length = n := ⟨_, rfl⟩
      have HNL2 := Aside0.mk hnl2
      rw [hnl2]
      replace HO2 := Aside0.mk (show Ow x2 (.slice Bu nl2 du) l2 by rw [← hnl2]; exact HO2.out)
      clear hnl2
      obtain ⟨S, hS⟩ : ∃ S : World → Prop, S = fun w' => w'.heap[k7]? = some (.cells (eA b) 24 (0, 0)) ∧ w'.heap[M]? = some (.cells #[.pointer (some ⟨T, 0, none⟩)] 35 (0, 0)) := ⟨_, rfl⟩
      have HSx := Aside0.mk (show ∀ x : World, S x → x.heap[k7]? = some (.cells (eA b) 24 (0, 0)) ∧ x.heap[M]? = some (.cells #[.pointer (some ⟨T, 0, none⟩)] 35 (0, 0)) by intro b h; rw [hS] at h; exact h)
      have HSi := Aside0.mk (show ∀ x : World, x.heap[k7]? = some (.cells (eA b) 24 (0, 0)) → x.heap[M]? = some (.cells #[.pointer (some ⟨T, 0, none⟩)] 35 (0, 0)) → S x by intro b h0 h1; rw [hS]; exact ⟨h0, h1⟩)
      have s0 : S x2.drew := HSi.out _ H7.out HM.out.blk
      have hb := bdrew (Below.refl x2.heap.size x2)
      replace HB := Aside0.mk (bdrew HB.out)
      replace HM := Aside0.mk (mp_below HM.out hb)
      replace HO2 := Aside0.mk (ow_below HO2.out hb)
      clear hS hb H7
      refine wp_region_held_drew (S := S) (by kernel_rfl) s0 (fun _ => ?_)
      generalize x2.drew = y0 at s0 HB HM HO2 ⊢
      refine anyH_tail (X := ?X17) (fun k17 y => y.heap[k17]? = some (.cells (eP own) 40 (0, 0)) ∧ y.heap[k7]? = some (.cells (eA b) 24 (0, 0)) ∧ k17 ≠ T ∧ Mp y M T T ((0 + m1 : Nat) : Int) sv3 l2 ∧ Ow y (.slice Bu nl2 du) l2 ∧ Below w.heap.size w y) (fun HTAIL => ?h17) ?t17
      case h17 =>
        (try simp only [Act.put, List.getElem_toArray, List.getElem_cons_succ, List.getElem_cons_zero, List.setIfInBounds_toArray, List.set_cons_zero, List.set_cons_succ])
        refine wpAnyH_take (i := 0) (v := .agg (eA b)) rfl (by kernel_rfl) (by kernel_rfl) (by kernel_rfl) (fun _ _ _ h => h) (yields_row (by kernel_rfl) 24 (.tmp 7) rfl k7 rfl 24 (eA b) (0, 0) _ (fun w' h => (HSx.out w' h).1) Tryz.underlying24 rfl (infoE HOB.out)) s0 ?_
        (try simp only [Act.put, List.getElem_toArray, List.getElem_cons_succ, List.getElem_cons_zero, List.setIfInBounds_toArray, List.set_cons_zero, List.set_cons_succ])
        refine wpAnyH_take (i := 1) (v := .agg (eA b)) rfl (by kernel_rfl) (by kernel_rfl) (by kernel_rfl) (fun _ _ _ h => h) (yields_row (by kernel_rfl) 24 (.tmp 7) rfl k7 rfl 24 (eA b) (0, 0) _ (fun w' h => (HSx.out w' h).1) Tryz.underlying24 rfl (infoE HOB.out)) s0 ?_
        (try simp only [Act.put, List.getElem_toArray, List.getElem_cons_succ, List.getElem_cons_zero, List.setIfInBounds_toArray, List.set_cons_zero, List.set_cons_succ])
        refine held_two (i := 2) (j := 4) (by kernel_rfl) rfl (by kernel_rfl) rfl (by kernel_rfl) (fun K hK => ?_) (fun K hK => ?_)
        · go_wp2_with (go_at_call 16; refine (ref04_Bits b _).mono ?_; rintro r z1 ⟨rfl, hb⟩; have s1 := HSi.out _ (blk_below (HSx.out _ s0).1 hb) (blk_below (HSx.out _ s0).2 hb); replace HM := Aside0.mk (mp_below HM.out hb); replace HO2 := Aside0.mk (ow_below HO2.out hb); replace HB := Aside0.mk (below_step HB.out hb); clear hb)
          refine hK.out _ _ s1 ?_
          clear hK K
          (try simp only [Act.put, List.getElem_toArray, List.getElem_cons_succ, List.getElem_cons_zero, List.setIfInBounds_toArray, List.set_cons_zero, List.set_cons_succ])
          refine held_two (i := 3) (j := 4) (by kernel_rfl) rfl (by kernel_rfl) rfl (by kernel_rfl) (fun K hK => ?_) (fun K hK => ?_)
          · go_wp2_with (go_at_call 15; refine (HMK.out _).mono ?_; rintro r z2 ⟨rfl, hb⟩; have s2 := HSi.out _ (blk_below (HSx.out _ s1).1 hb) (blk_below (HSx.out _ s1).2 hb); replace HM := Aside0.mk (mp_below HM.out hb); replace HO2 := Aside0.mk (ow_below HO2.out hb); replace HB := Aside0.mk (below_step HB.out hb); clear hb)
            refine hK.out _ _ s2 ?_
            clear hK K
            (try simp only [Act.put, List.getElem_toArray, List.getElem_cons_succ, List.getElem_cons_zero, List.setIfInBounds_toArray, List.set_cons_zero, List.set_cons_succ])
            refine held_step (i := 4) (by kernel_rfl) rfl (by kernel_rfl) (fun K hK => ?_)
            refine wp_new_event (cs := eP noP) (t := 40) (by first | (go_simp; done) | (go_simp; rfl)) ?_
            intro k17 hg z5 hbox hb
            have H17 := Aside0.mk hbox
            have HG17 := Aside0.mk (show w.heap.size ≤ k17 by rw [hg]; exact HB.out.size)
            have HN17 := Aside0.mk (show k17 ≠ T ∧ M ≠ k17 ∧ k7 ≠ k17 by have h1 := (Array.getElem?_eq_some_iff.1 (HSx.out _ s2).1).1; have h2 := (Array.getElem?_eq_some_iff.1 (HSx.out _ s2).2).1; have h3 := blk_lt HM.out.tb.blk; omega)
            have HF17 := Aside0.mk (own_fresh HM.out.tb.row (Nat.le_of_eq hg.symm))
            have s3 := HSi.out _ (blk_below (HSx.out _ s2).1 hb) (blk_below (HSx.out _ s2).2 hb)
            replace HM := Aside0.mk (mp_below HM.out hb); replace HO2 := Aside0.mk (ow_below HO2.out hb); replace HB := Aside0.mk (below_step HB.out hb)
            refine hK.out _ _ s3 ?_
            clear hK K hg hbox hb
            (try simp only [Act.put, List.getElem_toArray, List.getElem_cons_succ, List.getElem_cons_zero, List.setIfInBounds_toArray, List.set_cons_zero, List.set_cons_succ])
            refine held_step (i := 5) (by kernel_rfl) rfl (by kernel_rfl) (fun K hK => ?_)
            refine wp_store_row 40 (.tmp 17) (.tmp 82) rfl k17 (eP own) rfl rfl 40 (eP noP) H17.out (infoEP HOO.out) ((show (eP noP).size = 18 from rfl).trans (eP_size HOO.out).symm) (eP_one _) ?_
            refine hK.out _ _ (HSi.out _ ((row_far HN17.out.2.2).trans (HSx.out _ s3).1) ((row_far HN17.out.2.1).trans (HSx.out _ s3).2)) ?_
            clear hK K
            (try simp only [Act.put, List.getElem_toArray, List.getElem_cons_succ, List.getElem_cons_zero, List.setIfInBounds_toArray, List.set_cons_zero, List.set_cons_succ])
            refine wpAnyH_done (by kernel_rfl) ?_ _
            exact HTAIL.out k17 _ ⟨row_new H17.out, (row_far HN17.out.2.2).trans (HSx.out _ s3).1, HN17.out.1, mp_row HM.out HN17.out.2.1 HN17.out.1 HF17.out _, ow_row HO2.out H17.out (by decide), below_row HB.out HG17.out _⟩
          · refine wp_new_event (cs := eP noP) (t := 40) (by first | (go_simp; done) | (go_simp; rfl)) ?_
            intro k17 hg z5 hbox hb
            have H17 := Aside0.mk hbox
            have HG17 := Aside0.mk (show w.heap.size ≤ k17 by rw [hg]; exact HB.out.size)
            have HN17 := Aside0.mk (show k17 ≠ T ∧ M ≠ k17 ∧ k7 ≠ k17 by have h1 := (Array.getElem?_eq_some_iff.1 (HSx.out _ s1).1).1; have h2 := (Array.getElem?_eq_some_iff.1 (HSx.out _ s1).2).1; have h3 := blk_lt HM.out.tb.blk; omega)
            have HF17 := Aside0.mk (own_fresh HM.out.tb.row (Nat.le_of_eq hg.symm))
            have s2 := HSi.out _ (blk_below (HSx.out _ s1).1 hb) (blk_below (HSx.out _ s1).2 hb)
            replace HM := Aside0.mk (mp_below HM.out hb); replace HO2 := Aside0.mk (ow_below HO2.out hb); replace HB := Aside0.mk (below_step HB.out hb)
            refine hK.out _ _ s2 ?_
            clear hK K hg hbox hb
            (try simp only [Act.put, List.getElem_toArray, List.getElem_cons_succ, List.getElem_cons_zero, List.setIfInBounds_toArray, List.set_cons_zero, List.set_cons_succ])
            refine held_step (i := 3) (by kernel_rfl) rfl (by kernel_rfl) (fun K hK => ?_)
            go_wp2_with (go_at_call 15; refine (HMK.out _).mono ?_; rintro r z2 ⟨rfl, hb⟩; have s3 := HSi.out _ (blk_below (HSx.out _ s2).1 hb) (blk_below (HSx.out _ s2).2 hb); replace H17 := Aside0.mk (blk_below H17.out hb); replace HM := Aside0.mk (mp_below HM.out hb); replace HO2 := Aside0.mk (ow_below HO2.out hb); replace HB := Aside0.mk (below_step HB.out hb); clear hb)
            refine hK.out _ _ s3 ?_
            clear hK K 
            (try simp only [Act.put, List.getElem_toArray, List.getElem_cons_succ, List.getElem_cons_zero, List.setIfInBounds_toArray, List.set_cons_zero, List.set_cons_succ])
            refine held_step (i := 5) (by kernel_rfl) rfl (by kernel_rfl) (fun K hK => ?_)
            refine wp_store_row 40 (.tmp 17) (.tmp 82) rfl k17 (eP own) rfl rfl 40 (eP noP) H17.out (infoEP HOO.out) ((show (eP noP).size = 18 from rfl).trans (eP_size HOO.out).symm) (eP_one _) ?_
            refine hK.out _ _ (HSi.out _ ((row_far HN17.out.2.2).trans (HSx.out _ s3).1) ((row_far HN17.out.2.1).trans (HSx.out _ s3).2)) ?_
            clear hK K
            (try simp only [Act.put, List.getElem_toArray, List.getElem_cons_succ, List.getElem_cons_zero, List.setIfInBounds_toArray, List.set_cons_zero, List.set_cons_succ])
            refine wpAnyH_done (by kernel_rfl) ?_ _
            exact HTAIL.out k17 _ ⟨row_new H17.out, (row_far HN17.out.2.2).trans (HSx.out _ s3).1, HN17.out.1, mp_row HM.out HN17.out.2.1 HN17.out.1 HF17.out _, ow_row HO2.out H17.out (by decide), below_row HB.out HG17.out _⟩
        · refine wp_new_event (cs := eP noP) (t := 40) (by first | (go_simp; done) | (go_simp; rfl)) ?_
          intro k17 hg z5 hbox hb
          have H17 := Aside0.mk hbox
          have HG17 := Aside0.mk (show w.heap.size ≤ k17 by rw [hg]; exact HB.out.size)
          have HN17 := Aside0.mk (show k17 ≠ T ∧ M ≠ k17 ∧ k7 ≠ k17 by have h1 := (Array.getElem?_eq_some_iff.1 (HSx.out _ s0).1).1; have h2 := (Array.getElem?_eq_some_iff.1 (HSx.out _ s0).2).1; have h3 := blk_lt HM.out.tb.blk; omega)
          have HF17 := Aside0.mk (own_fresh HM.out.tb.row (Nat.le_of_eq hg.symm))
          have s1 := HSi.out _ (blk_below (HSx.out _ s0).1 hb) (blk_below (HSx.out _ s0).2 hb)
          replace HM := Aside0.mk (mp_below HM.out hb); replace HO2 := Aside0.mk (ow_below HO2.out hb); replace HB := Aside0.mk (below_step HB.out hb)
          refine hK.out _ _ s1 ?_
          clear hK K hg hbox hb
          (try simp only [Act.put, List.getElem_toArray, List.getElem_cons_succ, List.getElem_cons_zero, List.setIfInBounds_toArray, List.set_cons_zero, List.set_cons_succ])
          refine held_step (i := 2) (by kernel_rfl) rfl (by kernel_rfl) (fun K hK => ?_)
          go_wp2_with (go_at_call 16; refine (ref04_Bits b _).mono ?_; rintro r z1 ⟨rfl, hb⟩; have s2 := HSi.out _ (blk_below (HSx.out _ s1).1 hb) (blk_below (HSx.out _ s1).2 hb); replace H17 := Aside0.mk (blk_below H17.out hb); replace HM := Aside0.mk (mp_below HM.out hb); replace HO2 := Aside0.mk (ow_below HO2.out hb); replace HB := Aside0.mk (below_step HB.out hb); clear hb)
          refine hK.out _ _ s2 ?_
          clear hK K 
          (try simp only [Act.put, List.getElem_toArray, List.getElem_cons_succ, List.getElem_cons_zero, List.setIfInBounds_toArray, List.set_cons_zero, List.set_cons_succ])
          refine held_step (i := 3) (by kernel_rfl) rfl (by kernel_rfl) (fun K hK => ?_)
          go_wp2_with (go_at_call 15; refine (HMK.out _).mono ?_; rintro r z2 ⟨rfl, hb⟩; have s3 := HSi.out _ (blk_below (HSx.out _ s2).1 hb) (blk_below (HSx.out _ s2).2 hb); replace H17 := Aside0.mk (blk_below H17.out hb); replace HM := Aside0.mk (mp_below HM.out hb); replace HO2 := Aside0.mk (ow_below HO2.out hb); replace HB := Aside0.mk (below_step HB.out hb); clear hb)
          refine hK.out _ _ s3 ?_
          clear hK K 
          (try simp only [Act.put, List.getElem_toArray, List.getElem_cons_succ, List.getElem_cons_zero, List.setIfInBounds_toArray, List.set_cons_zero, List.set_cons_succ])
          refine held_step (i := 5) (by kernel_rfl) rfl (by kernel_rfl) (fun K hK => ?_)
          refine wp_store_row 40 (.tmp 17) (.tmp 82) rfl k17 (eP own) rfl rfl 40 (eP noP) H17.out (infoEP HOO.out) ((show (eP noP).size = 18 from rfl).trans (eP_size HOO.out).symm) (eP_one _) ?_
          refine hK.out _ _ (HSi.out _ ((row_far HN17.out.2.2).trans (HSx.out _ s3).1) ((row_far HN17.out.2.1).trans (HSx.out _ s3).2)) ?_
          clear hK K
          (try simp only [Act.put, List.getElem_toArray, List.getElem_cons_succ, List.getElem_cons_zero, List.setIfInBounds_toArray, List.set_cons_zero, List.set_cons_succ])
          refine wpAnyH_done (by kernel_rfl) ?_ _
          exact HTAIL.out k17 _ ⟨row_new H17.out, (row_far HN17.out.2.2).trans (HSx.out _ s3).1, HN17.out.1, mp_row HM.out HN17.out.2.1 HN17.out.1 HF17.out _, ow_row HO2.out H17.out (by decide), below_row HB.out HG17.out _⟩
      case t17 =>
        intro k17 x3 ⟨h17, h7, hn17, hm, ho2, hb3⟩
        have H17 := Aside0.mk h17
        have H7 := Aside0.mk h7
        have HN17 := Aside0.mk hn17
        have HM := Aside0.mk hm
        have HO2 := Aside0.mk ho2
        have HB := Aside0.mk hb3
        clear h17 h7 hn17 hm ho2 hb3
        go_wp2
        have HOU := Aside0.mk (ok_unmap HOB.out)
        clear HSx HSi
        by_cases hu : unmapA b = b
        · have HUE := Aside0.mk (decide_eq_true hu)
          have HOF3 := Aside0.mk (fun (M T base : Nat) (st : Nat) (sv : Value) (w : World) (hm : Mp w M T base (st : Int) sv l3) (hst : st ≤ 1000000) => map_Of M T base st sv l3 b HOB.out w hm HF3.out.sorted HLN3.out hst)
          rw [HSP3.out hu] at HOF3
          clear hu
          obtain ⟨S, hS⟩ : ∃ S : World → Prop, S = fun w' => w'.heap[k7]? = some (.cells (eA b) 24 (0, 0)) ∧ w'.heap[M]? = some (.cells #[.pointer (some ⟨T, 0, none⟩)] 35 (0, 0)) ∧ w'.heap[k17]? = some (.cells (eP own) 40 (0, 0)) := ⟨_, rfl⟩
          have HSx := Aside0.mk (show ∀ x : World, S x → x.heap[k7]? = some (.cells (eA b) 24 (0, 0)) ∧ x.heap[M]? = some (.cells #[.pointer (some ⟨T, 0, none⟩)] 35 (0, 0)) ∧ x.heap[k17]? = some (.cells (eP own) 40 (0, 0)) by intro b h; rw [hS] at h; exact h)
          have HSi := Aside0.mk (show ∀ x : World, x.heap[k7]? = some (.cells (eA b) 24 (0, 0)) → x.heap[M]? = some (.cells #[.pointer (some ⟨T, 0, none⟩)] 35 (0, 0)) → x.heap[k17]? = some (.cells (eP own) 40 (0, 0)) → S x by intro b h0 h1 h2; rw [hS]; exact ⟨h0, h1, h2⟩)
          have s0 : S x3.drew := HSi.out _ H7.out HM.out.blk H17.out
          have hb := bdrew (Below.refl x3.heap.size x3)
          replace HB := Aside0.mk (bdrew HB.out)
          replace HM := Aside0.mk (mp_below HM.out hb)
          replace HO2 := Aside0.mk (ow_below HO2.out hb)
          clear hS hb H7 H17
          refine wp_region_held_drew (S := S) (by kernel_rfl) s0 (fun _ => ?_)
          generalize x3.drew = y0 at s0 HB HM HO2 ⊢
          (try simp only [Act.put, List.getElem_toArray, List.getElem_cons_succ, List.getElem_cons_zero, List.setIfInBounds_toArray, List.set_cons_zero, List.set_cons_succ])
          refine wpAnyH_take (i := 0) (v := .int .i64 er) rfl (by kernel_rfl) (by kernel_rfl) (by kernel_rfl) (fun _ _ _ h => h) (Or.inl ⟨by kernel_rfl, fun w' h => by first | (go_simp; done) | (go_simp; rfl)⟩) s0 ?_
          (try simp only [Act.put, List.getElem_toArray, List.getElem_cons_succ, List.getElem_cons_zero, List.setIfInBounds_toArray, List.set_cons_zero, List.set_cons_succ])
          refine wpAnyH_take (i := 1) (v := .int .i64 er) rfl (by kernel_rfl) (by kernel_rfl) (by kernel_rfl) (fun _ _ _ h => h) (Or.inl ⟨by kernel_rfl, fun w' h => by first | (go_simp; done) | (go_simp; rfl)⟩) s0 ?_
          (try simp only [Act.put, List.getElem_toArray, List.getElem_cons_succ, List.getElem_cons_zero, List.setIfInBounds_toArray, List.set_cons_zero, List.set_cons_succ])
          refine wpAnyH_take (i := 2) (v := .bool true) rfl (by kernel_rfl) (by kernel_rfl) (by kernel_rfl) (fun _ _ _ h => h) (Or.inl ⟨by kernel_rfl, fun w' h => by first | (go_simp; done) | (go_simp; rfl)⟩) s0 ?_
          (try simp only [Act.put, List.getElem_toArray, List.getElem_cons_succ, List.getElem_cons_zero, List.setIfInBounds_toArray, List.set_cons_zero, List.set_cons_succ])
          refine wpAnyH_take (i := 3) (v := .bool true) rfl (by kernel_rfl) (by kernel_rfl) (by kernel_rfl) (fun _ _ _ h => h) (Or.inl ⟨by kernel_rfl, fun w' h => by first | (go_simp; done) | (go_simp; rfl)⟩) s0 ?_
          (try simp only [Act.put, List.getElem_toArray, List.getElem_cons_succ, List.getElem_cons_zero, List.setIfInBounds_toArray, List.set_cons_zero, List.set_cons_succ])
          refine wpAnyH_take (i := 4) (v := .pointer (some ⟨M, 0, none⟩)) rfl (by kernel_rfl) (by kernel_rfl) (by kernel_rfl) (fun _ _ _ h => h) (Or.inl ⟨by kernel_rfl, fun w' h => by first | (go_simp; done) | (go_simp; rfl)⟩) s0 ?_
          (try simp only [Act.put, List.getElem_toArray, List.getElem_cons_succ, List.getElem_cons_zero, List.setIfInBounds_toArray, List.set_cons_zero, List.set_cons_succ])
          refine wpAnyH_take (i := 5) (v := .agg (eA b)) rfl (by kernel_rfl) (by kernel_rfl) (by kernel_rfl) (fun _ _ _ h => h) (yields_row (by kernel_rfl) 24 (.tmp 7) rfl k7 rfl 24 (eA b) (0, 0) _ (fun w' h => (HSx.out w' h).1) Tryz.underlying24 rfl (infoE HOB.out)) s0 ?_
          (try simp only [Act.put, List.getElem_toArray, List.getElem_cons_succ, List.getElem_cons_zero, List.setIfInBounds_toArray, List.set_cons_zero, List.set_cons_succ])
          refine wpAnyH_take (i := 7) (v := .slice Bu nl2 du) rfl (by kernel_rfl) (by kernel_rfl) (by kernel_rfl) (fun _ _ _ h => h) (Or.inl ⟨by kernel_rfl, fun w' h => by first | (go_simp; done) | (go_simp; rfl)⟩) s0 ?_
          (try simp only [Act.put, List.getElem_toArray, List.getElem_cons_succ, List.getElem_cons_zero, List.setIfInBounds_toArray, List.set_cons_zero, List.set_cons_succ])
          refine wpAnyH_take (i := 8) (v := .agg (eA b)) rfl (by kernel_rfl) (by kernel_rfl) (by kernel_rfl) (fun _ _ _ h => h) (yields_row (by kernel_rfl) 24 (.tmp 7) rfl k7 rfl 24 (eA b) (0, 0) _ (fun w' h => (HSx.out w' h).1) Tryz.underlying24 rfl (infoE HOB.out)) s0 ?_
          (try simp only [Act.put, List.getElem_toArray, List.getElem_cons_succ, List.getElem_cons_zero, List.setIfInBounds_toArray, List.set_cons_zero, List.set_cons_succ])
          refine held_step (i := 6) (by kernel_rfl) rfl (by kernel_rfl) (fun K hK => ?_)
          go_wp2_with (go_at_call 8; refine (HOF2.out _ _ _ _ _ _ HM.out (by have := HST.out; omega)).mono ?_; rintro r y1 ⟨rfl, m2, hm2, htk⟩; have s1 := HSi.out _ (ticks_blk htk (HSx.out _ s0).1 HNK.out.2) (ticks_blk htk (HSx.out _ s0).2.1 (mp_ne HM.out)) (ticks_blk htk (HSx.out _ s0).2.2 HN17.out); replace HO2 := Aside0.mk (ow_ticks HM.out.tb HO2.out htk); replace HM := Aside0.mk (mp_ticks HM.out htk); replace HB := Aside0.mk (ticks_new HB.out htk HLT.out.2.2.1 (Nat.le_refl _)); have HST2 := Aside0.mk (show 0 + m1 + m2 ≤ 400000 by have := blen_le l2.length; have := HLN2.out; have := HST.out; omega); clear htk hm2)
          refine hK.out _ _ s1 ?_
          clear hK K s0
          (try simp only [Act.put, List.getElem_toArray, List.getElem_cons_succ, List.getElem_cons_zero, List.setIfInBounds_toArray, List.set_cons_zero, List.set_cons_succ])
          refine held_step (i := 9) (by kernel_rfl) rfl (by kernel_rfl) (fun K hK => ?_)
          go_wp2_with (go_at_call 9; refine (HRF2.out _ _ HO2.out).mono ?_; rintro r y2 ⟨rfl, hb⟩; have s2 := HSi.out _ (blk_below (HSx.out _ s1).1 hb) (blk_below (HSx.out _ s1).2.1 hb) (blk_below (HSx.out _ s1).2.2 hb); replace HM := Aside0.mk (mp_below HM.out hb); replace HO2 := Aside0.mk (ow_below HO2.out hb); replace HB := Aside0.mk (below_step HB.out hb); clear hb)
          refine hK.out _ _ s2 ?_
          clear hK K s1
          (try simp only [Act.put, List.getElem_toArray, List.getElem_cons_succ, List.getElem_cons_zero, List.setIfInBounds_toArray, List.set_cons_zero, List.set_cons_succ])
          refine wpAnyH_take (i := 10) (v := .bool true) rfl (by kernel_rfl) (by kernel_rfl) (by kernel_rfl) (fun _ _ _ h => h) (Or.inl ⟨by kernel_rfl, fun w' h => by first | (go_simp; done) | (go_simp; rfl)⟩) s2 ?_
          (try simp only [Act.put, List.getElem_toArray, List.getElem_cons_succ, List.getElem_cons_zero, List.setIfInBounds_toArray, List.set_cons_zero, List.set_cons_succ])
          refine wpAnyH_take (i := 11) (v := .bool true) rfl (by kernel_rfl) (by kernel_rfl) (by kernel_rfl) (fun _ _ _ h => h) (Or.inl ⟨by kernel_rfl, fun w' h => by first | (go_simp; done) | (go_simp; rfl)⟩) s2 ?_
          (try simp only [Act.put, List.getElem_toArray, List.getElem_cons_succ, List.getElem_cons_zero, List.setIfInBounds_toArray, List.set_cons_zero, List.set_cons_succ])
          refine wpAnyH_take (i := 12) (v := .bool true) rfl (by kernel_rfl) (by kernel_rfl) (by kernel_rfl) (fun _ _ _ h => h) (Or.inl ⟨by kernel_rfl, fun w' h => by first | (go_simp; done) | (go_simp; rfl)⟩) s2 ?_
          (try simp only [Act.put, List.getElem_toArray, List.getElem_cons_succ, List.getElem_cons_zero, List.setIfInBounds_toArray, List.set_cons_zero, List.set_cons_succ])
          refine wpAnyH_take (i := 13) (v := .pointer (some ⟨M, 0, none⟩)) rfl (by kernel_rfl) (by kernel_rfl) (by kernel_rfl) (fun _ _ _ h => h) (Or.inl ⟨by kernel_rfl, fun w' h => by first | (go_simp; done) | (go_simp; rfl)⟩) s2 ?_
          (try simp only [Act.put, List.getElem_toArray, List.getElem_cons_succ, List.getElem_cons_zero, List.setIfInBounds_toArray, List.set_cons_zero, List.set_cons_succ])
          refine wpAnyH_take (i := 14) (v := .pointer (some ⟨M, 0, none⟩)) rfl (by kernel_rfl) (by kernel_rfl) (by kernel_rfl) (fun _ _ _ h => h) (Or.inl ⟨by kernel_rfl, fun w' h => by first | (go_simp; done) | (go_simp; rfl)⟩) s2 ?_
          (try simp only [Act.put, List.getElem_toArray, List.getElem_cons_succ, List.getElem_cons_zero, List.setIfInBounds_toArray, List.set_cons_zero, List.set_cons_succ])
          refine wpAnyH_take (i := 15) (v := .pointer (some ⟨M, 0, none⟩)) rfl (by kernel_rfl) (by kernel_rfl) (by kernel_rfl) (fun _ _ _ h => h) (Or.inl ⟨by kernel_rfl, fun w' h => by first | (go_simp; done) | (go_simp; rfl)⟩) s2 ?_
          (try simp only [Act.put, List.getElem_toArray, List.getElem_cons_succ, List.getElem_cons_zero, List.setIfInBounds_toArray, List.set_cons_zero, List.set_cons_succ])
          refine wpAnyH_take (i := 16) (v := .pointer (some ⟨T, 0, none⟩)) rfl (by kernel_rfl) (by kernel_rfl) (by kernel_rfl) (fun _ _ _ h => h) (Or.inl ⟨by kernel_rfl, fun w' h => by have hf := blk_cell (HSx.out w' h).2.1 0; first | (go_simp; done) | (go_simp; rfl)⟩) s2 ?_
          (try simp only [Act.put, List.getElem_toArray, List.getElem_cons_succ, List.getElem_cons_zero, List.setIfInBounds_toArray, List.set_cons_zero, List.set_cons_succ])
          refine wpAnyH_take (i := 18) (v := .slice Bu nl2 du) rfl (by kernel_rfl) (by kernel_rfl) (by kernel_rfl) (fun _ _ _ h => h) (Or.inl ⟨by kernel_rfl, fun w' h => by first | (go_simp; done) | (go_simp; rfl)⟩) s2 ?_
          (try simp only [Act.put, List.getElem_toArray, List.getElem_cons_succ, List.getElem_cons_zero, List.setIfInBounds_toArray, List.set_cons_zero, List.set_cons_succ])
          refine wpAnyH_take (i := 19) (v := .int .i64 (nl2 : Int)) rfl (by kernel_rfl) (by kernel_rfl) (by kernel_rfl) (fun _ _ _ h => h) (Or.inl ⟨by kernel_rfl, fun w' h => by first | (go_simp; done) | (go_simp; rfl)⟩) s2 ?_
          (try simp only [Act.put, List.getElem_toArray, List.getElem_cons_succ, List.getElem_cons_zero, List.setIfInBounds_toArray, List.set_cons_zero, List.set_cons_succ])
          refine held_step (i := 17) (by kernel_rfl) rfl (by kernel_rfl) (fun K hK => ?_)
          go_wp2_with (go_at_call 10; refine (table_Len _ _ _ _ l2 _ HM.out.tb).mono ?_; rintro r y3 ⟨rfl, hb⟩; rw [HNL2.out]; have s3 := HSi.out _ (blk_below (HSx.out _ s2).1 hb) (blk_below (HSx.out _ s2).2.1 hb) (blk_below (HSx.out _ s2).2.2 hb); replace HM := Aside0.mk (mp_below HM.out hb); replace HB := Aside0.mk (below_step HB.out hb); clear hb)
          refine hK.out _ _ s3 ?_
          clear hK K s2
          (try simp only [Act.put, List.getElem_toArray, List.getElem_cons_succ, List.getElem_cons_zero, List.setIfInBounds_toArray, List.set_cons_zero, List.set_cons_succ])
          refine wpAnyH_take (i := 20) (v := .bool true) rfl (by kernel_rfl) (by kernel_rfl) (by kernel_rfl) (fun _ _ _ h => h) (Or.inl ⟨by kernel_rfl, fun w' h => by first | (go_simp; done) | (go_simp; rfl)⟩) s3 ?_
          (try simp only [Act.put, List.getElem_toArray, List.getElem_cons_succ, List.getElem_cons_zero, List.setIfInBounds_toArray, List.set_cons_zero, List.set_cons_succ])
          refine wpAnyH_take (i := 21) (v := .bool true) rfl (by kernel_rfl) (by kernel_rfl) (by kernel_rfl) (fun _ _ _ h => h) (Or.inl ⟨by kernel_rfl, fun w' h => by first | (go_simp; done) | (go_simp; rfl)⟩) s3 ?_
          (try simp only [Act.put, List.getElem_toArray, List.getElem_cons_succ, List.getElem_cons_zero, List.setIfInBounds_toArray, List.set_cons_zero, List.set_cons_succ])
          refine wpAnyH_take (i := 22) (v := .bool true) rfl (by kernel_rfl) (by kernel_rfl) (by kernel_rfl) (fun _ _ _ h => h) (Or.inl ⟨by kernel_rfl, fun w' h => by first | (go_simp; done) | (go_simp; rfl)⟩) s3 ?_
          (try simp only [Act.put, List.getElem_toArray, List.getElem_cons_succ, List.getElem_cons_zero, List.setIfInBounds_toArray, List.set_cons_zero, List.set_cons_succ])
          refine wpAnyH_take (i := 23) (v := .pointer (some ⟨M, 0, none⟩)) rfl (by kernel_rfl) (by kernel_rfl) (by kernel_rfl) (fun _ _ _ h => h) (Or.inl ⟨by kernel_rfl, fun w' h => by first | (go_simp; done) | (go_simp; rfl)⟩) s3 ?_
          (try simp only [Act.put, List.getElem_toArray, List.getElem_cons_succ, List.getElem_cons_zero, List.setIfInBounds_toArray, List.set_cons_zero, List.set_cons_succ])
          refine wpAnyH_take (i := 24) (v := .agg (eP own)) rfl (by kernel_rfl) (by kernel_rfl) (by kernel_rfl) (fun _ _ _ h => h) (yields_row (by kernel_rfl) 40 (.tmp 17) rfl k17 rfl 40 (eP own) (0, 0) _ (fun w' h => (HSx.out w' h).2.2) Tryz.underlying40 rfl (infoEP HOO.out)) s3 ?_
          (try simp only [Act.put, List.getElem_toArray, List.getElem_cons_succ, List.getElem_cons_zero, List.setIfInBounds_toArray, List.set_cons_zero, List.set_cons_succ])
          refine held_step (i := 25) (by kernel_rfl) rfl (by kernel_rfl) (fun K hK => ?_)
          go_wp2_with (go_at_call 14; refine (map_Add M T T _ sv3 l2 l3 own HOO.out 0 0 HE3.out HL3.out _ HM.out HF2.out.sorted HLN2.out (Nat.le_of_lt (blk_lt HM.out.tb.blk))).mono ?_; rintro r y4 ⟨rfl, HM3, HCH⟩; have s4 := HSi.out _ (chg_keep HCH.out (HSx.out _ s3).1 HNK.out.2 (by decide)) (chg_keep HCH.out (HSx.out _ s3).2.1 (mp_ne HM.out) (by decide)) (chg_keep HCH.out (HSx.out _ s3).2.2 HN17.out (by decide)); replace HB := Aside0.mk (HB.out.trans ((chg_base HCH.out (Nat.le_refl _) (Nat.le_of_lt (blk_lt HM.out.tb.blk))).mono HLT.out.2.2.1)); obtain ⟨sv4, hm4⟩ := HM3.out; replace HM := Aside0.mk hm4; clear hm4 HM3 HCH)
          refine hK.out _ _ s4 ?_
          clear hK K s3
          (try simp only [Act.put, List.getElem_toArray, List.getElem_cons_succ, List.getElem_cons_zero, List.setIfInBounds_toArray, List.set_cons_zero, List.set_cons_succ])
          refine wpAnyH_take (i := 26) (v := .bool true) rfl (by kernel_rfl) (by kernel_rfl) (by kernel_rfl) (fun _ _ _ h => h) (Or.inl ⟨by kernel_rfl, fun w' h => by first | (go_simp; done) | (go_simp; rfl)⟩) s4 ?_
          (try simp only [Act.put, List.getElem_toArray, List.getElem_cons_succ, List.getElem_cons_zero, List.setIfInBounds_toArray, List.set_cons_zero, List.set_cons_succ])
          refine wpAnyH_take (i := 27) (v := .bool true) rfl (by kernel_rfl) (by kernel_rfl) (by kernel_rfl) (fun _ _ _ h => h) (Or.inl ⟨by kernel_rfl, fun w' h => by first | (go_simp; done) | (go_simp; rfl)⟩) s4 ?_
          (try simp only [Act.put, List.getElem_toArray, List.getElem_cons_succ, List.getElem_cons_zero, List.setIfInBounds_toArray, List.set_cons_zero, List.set_cons_succ])
          refine wpAnyH_take (i := 28) (v := .bool true) rfl (by kernel_rfl) (by kernel_rfl) (by kernel_rfl) (fun _ _ _ h => h) (Or.inl ⟨by kernel_rfl, fun w' h => by first | (go_simp; done) | (go_simp; rfl)⟩) s4 ?_
          (try simp only [Act.put, List.getElem_toArray, List.getElem_cons_succ, List.getElem_cons_zero, List.setIfInBounds_toArray, List.set_cons_zero, List.set_cons_succ])
          refine wpAnyH_take (i := 29) (v := .agg (eA b)) rfl (by kernel_rfl) (by kernel_rfl) (by kernel_rfl) (fun _ _ _ h => h) (yields_row (by kernel_rfl) 24 (.tmp 7) rfl k7 rfl 24 (eA b) (0, 0) _ (fun w' h => (HSx.out w' h).1) Tryz.underlying24 rfl (infoE HOB.out)) s4 ?_
          (try simp only [Act.put, List.getElem_toArray, List.getElem_cons_succ, List.getElem_cons_zero, List.setIfInBounds_toArray, List.set_cons_zero, List.set_cons_succ])
          refine wpAnyH_take (i := 31) (v := .agg (eA b)) rfl (by kernel_rfl) (by kernel_rfl) (by kernel_rfl) (fun _ _ _ h => h) (yields_row (by kernel_rfl) 24 (.tmp 7) rfl k7 rfl 24 (eA b) (0, 0) _ (fun w' h => (HSx.out w' h).1) Tryz.underlying24 rfl (infoE HOB.out)) s4 ?_
          (try simp only [Act.put, List.getElem_toArray, List.getElem_cons_succ, List.getElem_cons_zero, List.setIfInBounds_toArray, List.set_cons_zero, List.set_cons_succ])
          refine held_step (i := 30) (by kernel_rfl) rfl (by kernel_rfl) (fun K hK => ?_)
          go_wp2_with (go_at_call 17; refine (ref04_Unmap b HOB.out _).mono ?_; rintro r y5 ⟨rfl, hb⟩; have s5 := HSi.out _ (blk_below (HSx.out _ s4).1 hb) (blk_below (HSx.out _ s4).2.1 hb) (blk_below (HSx.out _ s4).2.2 hb); replace HM := Aside0.mk (mp_below HM.out hb); replace HB := Aside0.mk (below_step HB.out hb); clear hb)
          refine hK.out _ _ s5 ?_
          clear hK K s4
          (try simp only [Act.put, List.getElem_toArray, List.getElem_cons_succ, List.getElem_cons_zero, List.setIfInBounds_toArray, List.set_cons_zero, List.set_cons_succ])
          refine wpAnyH_take (i := 32) (v := .bool false) rfl (by kernel_rfl) (by kernel_rfl) (by kernel_rfl) (fun _ _ _ h => h) (Or.inl ⟨by kernel_rfl, fun w' h => run_neq_op (r := true) rfl rfl rfl (by kernel_rfl) (by rw [show (10000 : Nat) = 9997 + 3 from rfl, eq_addr 9997 (unmapA b) b HOU.out HOB.out w', HUE.out])⟩) s5 ?_
          (try simp only [Act.put, List.getElem_toArray, List.getElem_cons_succ, List.getElem_cons_zero, List.setIfInBounds_toArray, List.set_cons_zero, List.set_cons_succ])
          refine wpAnyH_take (i := 33) (v := .bool false) rfl (by kernel_rfl) (by kernel_rfl) (by kernel_rfl) (fun _ _ _ h => h) (Or.inl ⟨by kernel_rfl, fun w' h => by first | (go_simp; done) | (go_simp; rfl)⟩) s5 ?_
          (try simp only [Act.put, List.getElem_toArray, List.getElem_cons_succ, List.getElem_cons_zero, List.setIfInBounds_toArray, List.set_cons_zero, List.set_cons_succ])
          refine wpAnyH_take (i := 34) (v := .pointer (some ⟨M, 0, none⟩)) rfl (by kernel_rfl) (by kernel_rfl) (by kernel_rfl) (fun _ _ _ h => h) (Or.inl ⟨by kernel_rfl, fun w' h => by first | (go_simp; done) | (go_simp; rfl)⟩) s5 ?_
          (try simp only [Act.put, List.getElem_toArray, List.getElem_cons_succ, List.getElem_cons_zero, List.setIfInBounds_toArray, List.set_cons_zero, List.set_cons_succ])
          refine wpAnyH_take (i := 35) (v := .agg (eA b)) rfl (by kernel_rfl) (by kernel_rfl) (by kernel_rfl) (fun _ _ _ h => h) (yields_row (by kernel_rfl) 24 (.tmp 7) rfl k7 rfl 24 (eA b) (0, 0) _ (fun w' h => (HSx.out w' h).1) Tryz.underlying24 rfl (infoE HOB.out)) s5 ?_
          (try simp only [Act.put, List.getElem_toArray, List.getElem_cons_succ, List.getElem_cons_zero, List.setIfInBounds_toArray, List.set_cons_zero, List.set_cons_succ])
          refine held_step (i := 36) (by kernel_rfl) rfl (by kernel_rfl) (fun K hK => ?_)
          go_wp2_with (go_at_call 8; refine (HOF3.out _ _ _ _ _ _ HM.out (by have := HST2.out; omega)).mono ?_; rintro r y6 ⟨rfl, m3, hm3, htk⟩; have s6 := HSi.out _ (ticks_blk htk (HSx.out _ s5).1 HNK.out.2) (ticks_blk htk (HSx.out _ s5).2.1 (mp_ne HM.out)) (ticks_blk htk (HSx.out _ s5).2.2 HN17.out); replace HB := Aside0.mk (ticks_new HB.out htk HLT.out.2.2.1 (Nat.le_refl _)); clear htk hm3)
          refine hK.out _ _ s6 ?_
          clear hK K s5
          (try simp only [Act.put, List.getElem_toArray, List.getElem_cons_succ, List.getElem_cons_zero, List.setIfInBounds_toArray, List.set_cons_zero, List.set_cons_succ])
          refine wpAnyH_take (i := 37) (v := .bool true) rfl (by kernel_rfl) (by kernel_rfl) (by kernel_rfl) (fun _ _ _ h => h) (Or.inl ⟨by kernel_rfl, fun w' h => by first | (go_simp; done) | (go_simp; rfl)⟩) s6 ?_
          (try simp only [Act.put, List.getElem_toArray, List.getElem_cons_succ, List.getElem_cons_zero, List.setIfInBounds_toArray, List.set_cons_zero, List.set_cons_succ])
          refine wpAnyH_take (i := 38) (v := .bool true) rfl (by kernel_rfl) (by kernel_rfl) (by kernel_rfl) (fun _ _ _ h => h) (Or.inl ⟨by kernel_rfl, fun w' h => by first | (go_simp; done) | (go_simp; rfl)⟩) s6 ?_
          (try simp only [Act.put, List.getElem_toArray, List.getElem_cons_succ, List.getElem_cons_zero, List.setIfInBounds_toArray, List.set_cons_zero, List.set_cons_succ])
          refine wpAnyH_take (i := 39) (v := .bool true) rfl (by kernel_rfl) (by kernel_rfl) (by kernel_rfl) (fun _ _ _ h => h) (Or.inl ⟨by kernel_rfl, fun w' h => by first | (go_simp; done) | (go_simp; rfl)⟩) s6 ?_
          (try simp only [Act.put, List.getElem_toArray, List.getElem_cons_succ, List.getElem_cons_zero, List.setIfInBounds_toArray, List.set_cons_zero, List.set_cons_succ])
          refine wpAnyH_take (i := 40) (v := .bool true) rfl (by kernel_rfl) (by kernel_rfl) (by kernel_rfl) (fun _ _ _ h => h) (Or.inl ⟨by kernel_rfl, fun w' h => by first | (go_simp; done) | (go_simp; rfl)⟩) s6 ?_
          (try simp only [Act.put, List.getElem_toArray, List.getElem_cons_succ, List.getElem_cons_zero, List.setIfInBounds_toArray, List.set_cons_zero, List.set_cons_succ])
          refine held_step (i := 41) (by kernel_rfl) rfl (by kernel_rfl) (fun K hK => ?_)
          go_wp2_with (go_at_call 11; refine (w07_lives.calls true _ (maxis_below HMX.out HB.out) rfl).mono ?_; rintro r y7 ⟨rfl, hb⟩; have s7 := HSi.out _ (blk_below (HSx.out _ s6).1 hb) (blk_below (HSx.out _ s6).2.1 hb) (blk_below (HSx.out _ s6).2.2 hb); replace HB := Aside0.mk (below_step HB.out hb); clear hb)
          refine hK.out _ _ s7 ?_
          clear hK K s6
          (try simp only [Act.put, List.getElem_toArray, List.getElem_cons_succ, List.getElem_cons_zero, List.setIfInBounds_toArray, List.set_cons_zero, List.set_cons_succ])
          refine wpAnyH_take (i := 42) (v := .bool true) rfl (by kernel_rfl) (by kernel_rfl) (by kernel_rfl) (fun _ _ _ h => h) (Or.inl ⟨by kernel_rfl, fun w' h => by first | (go_simp; done) | (go_simp; rfl)⟩) s7 ?_
          (try simp only [Act.put, List.getElem_toArray, List.getElem_cons_succ, List.getElem_cons_zero, List.setIfInBounds_toArray, List.set_cons_zero, List.set_cons_succ])
          refine wpAnyH_take (i := 43) (v := .bool true) rfl (by kernel_rfl) (by kernel_rfl) (by kernel_rfl) (fun _ _ _ h => h) (Or.inl ⟨by kernel_rfl, fun w' h => by first | (go_simp; done) | (go_simp; rfl)⟩) s7 ?_
          (try simp only [Act.put, List.getElem_toArray, List.getElem_cons_succ, List.getElem_cons_zero, List.setIfInBounds_toArray, List.set_cons_zero, List.set_cons_succ])
          refine wpAnyH_done (by kernel_rfl) ?_ _
          go_wp2
          go_ret
          exact ⟨rfl, HB.out⟩
        · have HUE := Aside0.mk (decide_eq_false hu)
          clear hu
          obtain ⟨S, hS⟩ : ∃ S : World → Prop, S = fun w' => w'.heap[k7]? = some (.cells (eA b) 24 (0, 0)) ∧ w'.heap[M]? = some (.cells #[.pointer (some ⟨T, 0, none⟩)] 35 (0, 0)) ∧ w'.heap[k17]? = some (.cells (eP own) 40 (0, 0)) := ⟨_, rfl⟩
          have HSx := Aside0.mk (show ∀ x : World, S x → x.heap[k7]? = some (.cells (eA b) 24 (0, 0)) ∧ x.heap[M]? = some (.cells #[.pointer (some ⟨T, 0, none⟩)] 35 (0, 0)) ∧ x.heap[k17]? = some (.cells (eP own) 40 (0, 0)) by intro b h; rw [hS] at h; exact h)
          have HSi := Aside0.mk (show ∀ x : World, x.heap[k7]? = some (.cells (eA b) 24 (0, 0)) → x.heap[M]? = some (.cells #[.pointer (some ⟨T, 0, none⟩)] 35 (0, 0)) → x.heap[k17]? = some (.cells (eP own) 40 (0, 0)) → S x by intro b h0 h1 h2; rw [hS]; exact ⟨h0, h1, h2⟩)
          have s0 : S x3.drew := HSi.out _ H7.out HM.out.blk H17.out
          have hb := bdrew (Below.refl x3.heap.size x3)
          replace HB := Aside0.mk (bdrew HB.out)
          replace HM := Aside0.mk (mp_below HM.out hb)
          replace HO2 := Aside0.mk (ow_below HO2.out hb)
          clear hS hb H7 H17
          refine wp_region_held_drew (S := S) (by kernel_rfl) s0 (fun _ => ?_)
          generalize x3.drew = y0 at s0 HB HM HO2 ⊢
          (try simp only [Act.put, List.getElem_toArray, List.getElem_cons_succ, List.getElem_cons_zero, List.setIfInBounds_toArray, List.set_cons_zero, List.set_cons_succ])
          refine wpAnyH_take (i := 0) (v := .int .i64 er) rfl (by kernel_rfl) (by kernel_rfl) (by kernel_rfl) (fun _ _ _ h => h) (Or.inl ⟨by kernel_rfl, fun w' h => by first | (go_simp; done) | (go_simp; rfl)⟩) s0 ?_
          (try simp only [Act.put, List.getElem_toArray, List.getElem_cons_succ, List.getElem_cons_zero, List.setIfInBounds_toArray, List.set_cons_zero, List.set_cons_succ])
          refine wpAnyH_take (i := 1) (v := .int .i64 er) rfl (by kernel_rfl) (by kernel_rfl) (by kernel_rfl) (fun _ _ _ h => h) (Or.inl ⟨by kernel_rfl, fun w' h => by first | (go_simp; done) | (go_simp; rfl)⟩) s0 ?_
          (try simp only [Act.put, List.getElem_toArray, List.getElem_cons_succ, List.getElem_cons_zero, List.setIfInBounds_toArray, List.set_cons_zero, List.set_cons_succ])
          refine wpAnyH_take (i := 2) (v := .bool true) rfl (by kernel_rfl) (by kernel_rfl) (by kernel_rfl) (fun _ _ _ h => h) (Or.inl ⟨by kernel_rfl, fun w' h => by first | (go_simp; done) | (go_simp; rfl)⟩) s0 ?_
          (try simp only [Act.put, List.getElem_toArray, List.getElem_cons_succ, List.getElem_cons_zero, List.setIfInBounds_toArray, List.set_cons_zero, List.set_cons_succ])
          refine wpAnyH_take (i := 3) (v := .bool true) rfl (by kernel_rfl) (by kernel_rfl) (by kernel_rfl) (fun _ _ _ h => h) (Or.inl ⟨by kernel_rfl, fun w' h => by first | (go_simp; done) | (go_simp; rfl)⟩) s0 ?_
          (try simp only [Act.put, List.getElem_toArray, List.getElem_cons_succ, List.getElem_cons_zero, List.setIfInBounds_toArray, List.set_cons_zero, List.set_cons_succ])
          refine wpAnyH_take (i := 4) (v := .pointer (some ⟨M, 0, none⟩)) rfl (by kernel_rfl) (by kernel_rfl) (by kernel_rfl) (fun _ _ _ h => h) (Or.inl ⟨by kernel_rfl, fun w' h => by first | (go_simp; done) | (go_simp; rfl)⟩) s0 ?_
          (try simp only [Act.put, List.getElem_toArray, List.getElem_cons_succ, List.getElem_cons_zero, List.setIfInBounds_toArray, List.set_cons_zero, List.set_cons_succ])
          refine wpAnyH_take (i := 5) (v := .agg (eA b)) rfl (by kernel_rfl) (by kernel_rfl) (by kernel_rfl) (fun _ _ _ h => h) (yields_row (by kernel_rfl) 24 (.tmp 7) rfl k7 rfl 24 (eA b) (0, 0) _ (fun w' h => (HSx.out w' h).1) Tryz.underlying24 rfl (infoE HOB.out)) s0 ?_
          (try simp only [Act.put, List.getElem_toArray, List.getElem_cons_succ, List.getElem_cons_zero, List.setIfInBounds_toArray, List.set_cons_zero, List.set_cons_succ])
          refine wpAnyH_take (i := 7) (v := .slice Bu nl2 du) rfl (by kernel_rfl) (by kernel_rfl) (by kernel_rfl) (fun _ _ _ h => h) (Or.inl ⟨by kernel_rfl, fun w' h => by first | (go_simp; done) | (go_simp; rfl)⟩) s0 ?_
          (try simp only [Act.put, List.getElem_toArray, List.getElem_cons_succ, List.getElem_cons_zero, List.setIfInBounds_toArray, List.set_cons_zero, List.set_cons_succ])
          refine wpAnyH_take (i := 8) (v := .agg (eA b)) rfl (by kernel_rfl) (by kernel_rfl) (by kernel_rfl) (fun _ _ _ h => h) (yields_row (by kernel_rfl) 24 (.tmp 7) rfl k7 rfl 24 (eA b) (0, 0) _ (fun w' h => (HSx.out w' h).1) Tryz.underlying24 rfl (infoE HOB.out)) s0 ?_
          (try simp only [Act.put, List.getElem_toArray, List.getElem_cons_succ, List.getElem_cons_zero, List.setIfInBounds_toArray, List.set_cons_zero, List.set_cons_succ])
          refine held_step (i := 6) (by kernel_rfl) rfl (by kernel_rfl) (fun K hK => ?_)
          go_wp2_with (go_at_call 8; refine (HOF2.out _ _ _ _ _ _ HM.out (by have := HST.out; omega)).mono ?_; rintro r y1 ⟨rfl, m2, hm2, htk⟩; have s1 := HSi.out _ (ticks_blk htk (HSx.out _ s0).1 HNK.out.2) (ticks_blk htk (HSx.out _ s0).2.1 (mp_ne HM.out)) (ticks_blk htk (HSx.out _ s0).2.2 HN17.out); replace HO2 := Aside0.mk (ow_ticks HM.out.tb HO2.out htk); replace HM := Aside0.mk (mp_ticks HM.out htk); replace HB := Aside0.mk (ticks_new HB.out htk HLT.out.2.2.1 (Nat.le_refl _)); clear htk hm2)
          refine hK.out _ _ s1 ?_
          clear hK K s0
          (try simp only [Act.put, List.getElem_toArray, List.getElem_cons_succ, List.getElem_cons_zero, List.setIfInBounds_toArray, List.set_cons_zero, List.set_cons_succ])
          refine held_step (i := 9) (by kernel_rfl) rfl (by kernel_rfl) (fun K hK => ?_)
          go_wp2_with (go_at_call 9; refine (HRF2.out _ _ HO2.out).mono ?_; rintro r y2 ⟨rfl, hb⟩; have s2 := HSi.out _ (blk_below (HSx.out _ s1).1 hb) (blk_below (HSx.out _ s1).2.1 hb) (blk_below (HSx.out _ s1).2.2 hb); replace HM := Aside0.mk (mp_below HM.out hb); replace HO2 := Aside0.mk (ow_below HO2.out hb); replace HB := Aside0.mk (below_step HB.out hb); clear hb)
          refine hK.out _ _ s2 ?_
          clear hK K s1
          (try simp only [Act.put, List.getElem_toArray, List.getElem_cons_succ, List.getElem_cons_zero, List.setIfInBounds_toArray, List.set_cons_zero, List.set_cons_succ])
          refine wpAnyH_take (i := 10) (v := .bool true) rfl (by kernel_rfl) (by kernel_rfl) (by kernel_rfl) (fun _ _ _ h => h) (Or.inl ⟨by kernel_rfl, fun w' h => by first | (go_simp; done) | (go_simp; rfl)⟩) s2 ?_
          (try simp only [Act.put, List.getElem_toArray, List.getElem_cons_succ, List.getElem_cons_zero, List.setIfInBounds_toArray, List.set_cons_zero, List.set_cons_succ])
          refine wpAnyH_take (i := 11) (v := .bool true) rfl (by kernel_rfl) (by kernel_rfl) (by kernel_rfl) (fun _ _ _ h => h) (Or.inl ⟨by kernel_rfl, fun w' h => by first | (go_simp; done) | (go_simp; rfl)⟩) s2 ?_
          (try simp only [Act.put, List.getElem_toArray, List.getElem_cons_succ, List.getElem_cons_zero, List.setIfInBounds_toArray, List.set_cons_zero, List.set_cons_succ])
          refine wpAnyH_take (i := 12) (v := .bool true) rfl (by kernel_rfl) (by kernel_rfl) (by kernel_rfl) (fun _ _ _ h => h) (Or.inl ⟨by kernel_rfl, fun w' h => by first | (go_simp; done) | (go_simp; rfl)⟩) s2 ?_
          (try simp only [Act.put, List.getElem_toArray, List.getElem_cons_succ, List.getElem_cons_zero, List.setIfInBounds_toArray, List.set_cons_zero, List.set_cons_succ])
          refine wpAnyH_take (i := 13) (v := .pointer (some ⟨M, 0, none⟩)) rfl (by kernel_rfl) (by kernel_rfl) (by kernel_rfl) (fun _ _ _ h => h) (Or.inl ⟨by kernel_rfl, fun w' h => by first | (go_simp; done) | (go_simp; rfl)⟩) s2 ?_
          (try simp only [Act.put, List.getElem_toArray, List.getElem_cons_succ, List.getElem_cons_zero, List.setIfInBounds_toArray, List.set_cons_zero, List.set_cons_succ])
          refine wpAnyH_take (i := 14) (v := .pointer (some ⟨M, 0, none⟩)) rfl (by kernel_rfl) (by kernel_rfl) (by kernel_rfl) (fun _ _ _ h => h) (Or.inl ⟨by kernel_rfl, fun w' h => by first | (go_simp; done) | (go_simp; rfl)⟩) s2 ?_
          (try simp only [Act.put, List.getElem_toArray, List.getElem_cons_succ, List.getElem_cons_zero, List.setIfInBounds_toArray, List.set_cons_zero, List.set_cons_succ])
          refine wpAnyH_take (i := 15) (v := .pointer (some ⟨M, 0, none⟩)) rfl (by kernel_rfl) (by kernel_rfl) (by kernel_rfl) (fun _ _ _ h => h) (Or.inl ⟨by kernel_rfl, fun w' h => by first | (go_simp; done) | (go_simp; rfl)⟩) s2 ?_
          (try simp only [Act.put, List.getElem_toArray, List.getElem_cons_succ, List.getElem_cons_zero, List.setIfInBounds_toArray, List.set_cons_zero, List.set_cons_succ])
          refine wpAnyH_take (i := 16) (v := .pointer (some ⟨T, 0, none⟩)) rfl (by kernel_rfl) (by kernel_rfl) (by kernel_rfl) (fun _ _ _ h => h) (Or.inl ⟨by kernel_rfl, fun w' h => by have hf := blk_cell (HSx.out w' h).2.1 0; first | (go_simp; done) | (go_simp; rfl)⟩) s2 ?_
          (try simp only [Act.put, List.getElem_toArray, List.getElem_cons_succ, List.getElem_cons_zero, List.setIfInBounds_toArray, List.set_cons_zero, List.set_cons_succ])
          refine wpAnyH_take (i := 18) (v := .slice Bu nl2 du) rfl (by kernel_rfl) (by kernel_rfl) (by kernel_rfl) (fun _ _ _ h => h) (Or.inl ⟨by kernel_rfl, fun w' h => by first | (go_simp; done) | (go_simp; rfl)⟩) s2 ?_
          (try simp only [Act.put, List.getElem_toArray, List.getElem_cons_succ, List.getElem_cons_zero, List.setIfInBounds_toArray, List.set_cons_zero, List.set_cons_succ])
          refine wpAnyH_take (i := 19) (v := .int .i64 (nl2 : Int)) rfl (by kernel_rfl) (by kernel_rfl) (by kernel_rfl) (fun _ _ _ h => h) (Or.inl ⟨by kernel_rfl, fun w' h => by first | (go_simp; done) | (go_simp; rfl)⟩) s2 ?_
          (try simp only [Act.put, List.getElem_toArray, List.getElem_cons_succ, List.getElem_cons_zero, List.setIfInBounds_toArray, List.set_cons_zero, List.set_cons_succ])
          refine held_step (i := 17) (by kernel_rfl) rfl (by kernel_rfl) (fun K hK => ?_)
          go_wp2_with (go_at_call 10; refine (table_Len _ _ _ _ l2 _ HM.out.tb).mono ?_; rintro r y3 ⟨rfl, hb⟩; rw [HNL2.out]; have s3 := HSi.out _ (blk_below (HSx.out _ s2).1 hb) (blk_below (HSx.out _ s2).2.1 hb) (blk_below (HSx.out _ s2).2.2 hb); replace HM := Aside0.mk (mp_below HM.out hb); replace HB := Aside0.mk (below_step HB.out hb); clear hb)
          refine hK.out _ _ s3 ?_
          clear hK K s2
          (try simp only [Act.put, List.getElem_toArray, List.getElem_cons_succ, List.getElem_cons_zero, List.setIfInBounds_toArray, List.set_cons_zero, List.set_cons_succ])
          refine wpAnyH_take (i := 20) (v := .bool true) rfl (by kernel_rfl) (by kernel_rfl) (by kernel_rfl) (fun _ _ _ h => h) (Or.inl ⟨by kernel_rfl, fun w' h => by first | (go_simp; done) | (go_simp; rfl)⟩) s3 ?_
          (try simp only [Act.put, List.getElem_toArray, List.getElem_cons_succ, List.getElem_cons_zero, List.setIfInBounds_toArray, List.set_cons_zero, List.set_cons_succ])
          refine wpAnyH_take (i := 21) (v := .bool true) rfl (by kernel_rfl) (by kernel_rfl) (by kernel_rfl) (fun _ _ _ h => h) (Or.inl ⟨by kernel_rfl, fun w' h => by first | (go_simp; done) | (go_simp; rfl)⟩) s3 ?_
          (try simp only [Act.put, List.getElem_toArray, List.getElem_cons_succ, List.getElem_cons_zero, List.setIfInBounds_toArray, List.set_cons_zero, List.set_cons_succ])
          refine wpAnyH_take (i := 22) (v := .bool true) rfl (by kernel_rfl) (by kernel_rfl) (by kernel_rfl) (fun _ _ _ h => h) (Or.inl ⟨by kernel_rfl, fun w' h => by first | (go_simp; done) | (go_simp; rfl)⟩) s3 ?_
          (try simp only [Act.put, List.getElem_toArray, List.getElem_cons_succ, List.getElem_cons_zero, List.setIfInBounds_toArray, List.set_cons_zero, List.set_cons_succ])
          refine wpAnyH_take (i := 23) (v := .pointer (some ⟨M, 0, none⟩)) rfl (by kernel_rfl) (by kernel_rfl) (by kernel_rfl) (fun _ _ _ h => h) (Or.inl ⟨by kernel_rfl, fun w' h => by first | (go_simp; done) | (go_simp; rfl)⟩) s3 ?_
          (try simp only [Act.put, List.getElem_toArray, List.getElem_cons_succ, List.getElem_cons_zero, List.setIfInBounds_toArray, List.set_cons_zero, List.set_cons_succ])
          refine wpAnyH_take (i := 24) (v := .agg (eP own)) rfl (by kernel_rfl) (by kernel_rfl) (by kernel_rfl) (fun _ _ _ h => h) (yields_row (by kernel_rfl) 40 (.tmp 17) rfl k17 rfl 40 (eP own) (0, 0) _ (fun w' h => (HSx.out w' h).2.2) Tryz.underlying40 rfl (infoEP HOO.out)) s3 ?_
          (try simp only [Act.put, List.getElem_toArray, List.getElem_cons_succ, List.getElem_cons_zero, List.setIfInBounds_toArray, List.set_cons_zero, List.set_cons_succ])
          refine held_step (i := 25) (by kernel_rfl) rfl (by kernel_rfl) (fun K hK => ?_)
          go_wp2_with (go_at_call 14; refine (map_Add M T T _ sv3 l2 l3 own HOO.out 0 0 HE3.out HL3.out _ HM.out HF2.out.sorted HLN2.out (Nat.le_of_lt (blk_lt HM.out.tb.blk))).mono ?_; rintro r y4 ⟨rfl, HM3, HCH⟩; have s4 := HSi.out _ (chg_keep HCH.out (HSx.out _ s3).1 HNK.out.2 (by decide)) (chg_keep HCH.out (HSx.out _ s3).2.1 (mp_ne HM.out) (by decide)) (chg_keep HCH.out (HSx.out _ s3).2.2 HN17.out (by decide)); replace HB := Aside0.mk (HB.out.trans ((chg_base HCH.out (Nat.le_refl _) (Nat.le_of_lt (blk_lt HM.out.tb.blk))).mono HLT.out.2.2.1)); obtain ⟨sv4, hm4⟩ := HM3.out; replace HM := Aside0.mk hm4; clear hm4 HM3 HCH)
          refine hK.out _ _ s4 ?_
          clear hK K s3
          (try simp only [Act.put, List.getElem_toArray, List.getElem_cons_succ, List.getElem_cons_zero, List.setIfInBounds_toArray, List.set_cons_zero, List.set_cons_succ])
          refine wpAnyH_take (i := 26) (v := .bool true) rfl (by kernel_rfl) (by kernel_rfl) (by kernel_rfl) (fun _ _ _ h => h) (Or.inl ⟨by kernel_rfl, fun w' h => by first | (go_simp; done) | (go_simp; rfl)⟩) s4 ?_
          (try simp only [Act.put, List.getElem_toArray, List.getElem_cons_succ, List.getElem_cons_zero, List.setIfInBounds_toArray, List.set_cons_zero, List.set_cons_succ])
          refine wpAnyH_take (i := 27) (v := .bool true) rfl (by kernel_rfl) (by kernel_rfl) (by kernel_rfl) (fun _ _ _ h => h) (Or.inl ⟨by kernel_rfl, fun w' h => by first | (go_simp; done) | (go_simp; rfl)⟩) s4 ?_
          (try simp only [Act.put, List.getElem_toArray, List.getElem_cons_succ, List.getElem_cons_zero, List.setIfInBounds_toArray, List.set_cons_zero, List.set_cons_succ])
          refine wpAnyH_take (i := 28) (v := .bool true) rfl (by kernel_rfl) (by kernel_rfl) (by kernel_rfl) (fun _ _ _ h => h) (Or.inl ⟨by kernel_rfl, fun w' h => by first | (go_simp; done) | (go_simp; rfl)⟩) s4 ?_
          (try simp only [Act.put, List.getElem_toArray, List.getElem_cons_succ, List.getElem_cons_zero, List.setIfInBounds_toArray, List.set_cons_zero, List.set_cons_succ])
          refine wpAnyH_take (i := 29) (v := .agg (eA b)) rfl (by kernel_rfl) (by kernel_rfl) (by kernel_rfl) (fun _ _ _ h => h) (yields_row (by kernel_rfl) 24 (.tmp 7) rfl k7 rfl 24 (eA b) (0, 0) _ (fun w' h => (HSx.out w' h).1) Tryz.underlying24 rfl (infoE HOB.out)) s4 ?_
          (try simp only [Act.put, List.getElem_toArray, List.getElem_cons_succ, List.getElem_cons_zero, List.setIfInBounds_toArray, List.set_cons_zero, List.set_cons_succ])
          refine wpAnyH_take (i := 31) (v := .agg (eA b)) rfl (by kernel_rfl) (by kernel_rfl) (by kernel_rfl) (fun _ _ _ h => h) (yields_row (by kernel_rfl) 24 (.tmp 7) rfl k7 rfl 24 (eA b) (0, 0) _ (fun w' h => (HSx.out w' h).1) Tryz.underlying24 rfl (infoE HOB.out)) s4 ?_
          (try simp only [Act.put, List.getElem_toArray, List.getElem_cons_succ, List.getElem_cons_zero, List.setIfInBounds_toArray, List.set_cons_zero, List.set_cons_succ])
          refine held_step (i := 30) (by kernel_rfl) rfl (by kernel_rfl) (fun K hK => ?_)
          go_wp2_with (go_at_call 17; refine (ref04_Unmap b HOB.out _).mono ?_; rintro r y5 ⟨rfl, hb⟩; have s5 := HSi.out _ (blk_below (HSx.out _ s4).1 hb) (blk_below (HSx.out _ s4).2.1 hb) (blk_below (HSx.out _ s4).2.2 hb); replace HM := Aside0.mk (mp_below HM.out hb); replace HB := Aside0.mk (below_step HB.out hb); clear hb)
          refine hK.out _ _ s5 ?_
          clear hK K s4
          (try simp only [Act.put, List.getElem_toArray, List.getElem_cons_succ, List.getElem_cons_zero, List.setIfInBounds_toArray, List.set_cons_zero, List.set_cons_succ])
          refine wpAnyH_take (i := 32) (v := .bool true) rfl (by kernel_rfl) (by kernel_rfl) (by kernel_rfl) (fun _ _ _ h => h) (Or.inl ⟨by kernel_rfl, fun w' h => run_neq_op (r := false) rfl rfl rfl (by kernel_rfl) (by rw [show (10000 : Nat) = 9997 + 3 from rfl, eq_addr 9997 (unmapA b) b HOU.out HOB.out w', HUE.out])⟩) s5 ?_
          (try simp only [Act.put, List.getElem_toArray, List.getElem_cons_succ, List.getElem_cons_zero, List.setIfInBounds_toArray, List.set_cons_zero, List.set_cons_succ])
          refine wpAnyH_take (i := 33) (v := .bool true) rfl (by kernel_rfl) (by kernel_rfl) (by kernel_rfl) (fun _ _ _ h => h) (Or.inl ⟨by kernel_rfl, fun w' h => by first | (go_simp; done) | (go_simp; rfl)⟩) s5 ?_
          (try simp only [Act.put, List.getElem_toArray, List.getElem_cons_succ, List.getElem_cons_zero, List.setIfInBounds_toArray, List.set_cons_zero, List.set_cons_succ])
          refine wpAnyH_take (i := 34) (v := undef) rfl (by kernel_rfl) (by kernel_rfl) (by kernel_rfl) (fun _ _ _ h => h) (Or.inr ⟨by kernel_rfl, rfl⟩) s5 ?_
          (try simp only [Act.put, List.getElem_toArray, List.getElem_cons_succ, List.getElem_cons_zero, List.setIfInBounds_toArray, List.set_cons_zero, List.set_cons_succ])
          refine wpAnyH_take (i := 35) (v := undef) rfl (by kernel_rfl) (by kernel_rfl) (by kernel_rfl) (fun _ _ _ h => h) (Or.inr ⟨by kernel_rfl, rfl⟩) s5 ?_
          (try simp only [Act.put, List.getElem_toArray, List.getElem_cons_succ, List.getElem_cons_zero, List.setIfInBounds_toArray, List.set_cons_zero, List.set_cons_succ])
          refine wpAnyH_take (i := 36) (v := undef) rfl (by kernel_rfl) (by kernel_rfl) (by kernel_rfl) (fun _ _ _ h => h) (Or.inr ⟨by kernel_rfl, rfl⟩) s5 ?_
          (try simp only [Act.put, List.getElem_toArray, List.getElem_cons_succ, List.getElem_cons_zero, List.setIfInBounds_toArray, List.set_cons_zero, List.set_cons_succ])
          refine wpAnyH_take (i := 37) (v := undef) rfl (by kernel_rfl) (by kernel_rfl) (by kernel_rfl) (fun _ _ _ h => h) (Or.inr ⟨by kernel_rfl, rfl⟩) s5 ?_
          (try simp only [Act.put, List.getElem_toArray, List.getElem_cons_succ, List.getElem_cons_zero, List.setIfInBounds_toArray, List.set_cons_zero, List.set_cons_succ])
          refine wpAnyH_take (i := 38) (v := .bool true) rfl (by kernel_rfl) (by kernel_rfl) (by kernel_rfl) (fun _ _ _ h => h) (Or.inl ⟨by kernel_rfl, fun w' h => by first | (go_simp; done) | (go_simp; rfl)⟩) s5 ?_
          (try simp only [Act.put, List.getElem_toArray, List.getElem_cons_succ, List.getElem_cons_zero, List.setIfInBounds_toArray, List.set_cons_zero, List.set_cons_succ])
          refine wpAnyH_take (i := 39) (v := .bool true) rfl (by kernel_rfl) (by kernel_rfl) (by kernel_rfl) (fun _ _ _ h => h) (Or.inl ⟨by kernel_rfl, fun w' h => by first | (go_simp; done) | (go_simp; rfl)⟩) s5 ?_
          (try simp only [Act.put, List.getElem_toArray, List.getElem_cons_succ, List.getElem_cons_zero, List.setIfInBounds_toArray, List.set_cons_zero, List.set_cons_succ])
          refine wpAnyH_take (i := 40) (v := .bool true) rfl (by kernel_rfl) (by kernel_rfl) (by kernel_rfl) (fun _ _ _ h => h) (Or.inl ⟨by kernel_rfl, fun w' h => by first | (go_simp; done) | (go_simp; rfl)⟩) s5 ?_
          (try simp only [Act.put, List.getElem_toArray, List.getElem_cons_succ, List.getElem_cons_zero, List.setIfInBounds_toArray, List.set_cons_zero, List.set_cons_succ])
          refine held_step (i := 41) (by kernel_rfl) rfl (by kernel_rfl) (fun K hK => ?_)
          go_wp2_with (go_at_call 11; refine (w07_lives.calls true _ (maxis_below HMX.out HB.out) rfl).mono ?_; rintro r y7 ⟨rfl, hb⟩; have s7 := HSi.out _ (blk_below (HSx.out _ s5).1 hb) (blk_below (HSx.out _ s5).2.1 hb) (blk_below (HSx.out _ s5).2.2 hb); replace HB := Aside0.mk (below_step HB.out hb); clear hb)
          refine hK.out _ _ s7 ?_
          clear hK K s5
          (try simp only [Act.put, List.getElem_toArray, List.getElem_cons_succ, List.getElem_cons_zero, List.setIfInBounds_toArray, List.set_cons_zero, List.set_cons_succ])
          refine wpAnyH_take (i := 42) (v := .bool true) rfl (by kernel_rfl) (by kernel_rfl) (by kernel_rfl) (fun _ _ _ h => h) (Or.inl ⟨by kernel_rfl, fun w' h => by first | (go_simp; done) | (go_simp; rfl)⟩) s7 ?_
          (try simp only [Act.put, List.getElem_toArray, List.getElem_cons_succ, List.getElem_cons_zero, List.setIfInBounds_toArray, List.set_cons_zero, List.set_cons_succ])
          refine wpAnyH_take (i := 43) (v := .bool true) rfl (by kernel_rfl) (by kernel_rfl) (by kernel_rfl) (fun _ _ _ h => h) (Or.inl ⟨by kernel_rfl, fun w' h => by first | (go_simp; done) | (go_simp; rfl)⟩) s7 ?_
          (try simp only [Act.put, List.getElem_toArray, List.getElem_cons_succ, List.getElem_cons_zero, List.setIfInBounds_toArray, List.set_cons_zero, List.set_cons_succ])
          refine wpAnyH_done (by kernel_rfl) ?_ _
          go_wp2
          go_ret
          exact ⟨rfl, HB.out⟩
end Go.Proofs.YtjilnigmbnmlfaaGreatDoor.P
