/-
  Law SpaceAdds.
-/
import Derived.Test.YtjilnigmbnmlfaaDoorSpaV
namespace Go.Proofs.YtjilnigmbnmlfaaDoor.P
open Go.RowKit Go.Proofs.YtjilnigmbnmlfaaDoorW.PrintWords Go.Proofs.YtjilnigmbnmlfaaDoorW.PrintLast Go.Proofs.YtjilnigmbnmlfaaDoorW.PrintMore
set_option linter.unusedVariables false
set_option linter.unusedSimpArgs false
section
variable {P : Program} {ops : Array Oper} {rest : List Oper} {o : Oper} {a : Act} {w : World} {Q : Exit → Act → World → Prop}
/-- A whole load under a guard that lets it in. -/
theorem wp_when_row (hw : Region.wanted o (yielded ops a.tmps) = true) (ty : TypeId) (x : Operand) (ho : o.op = .load ty x) (g : Nat) (hx : a.eval x = .pointer (some ⟨g, 0, none⟩)) (t : TypeId) (cs : Array Value) (fr : Nat × Nat) (d : TypeDesc) (hg : w.heap[g]? = some (.cells cs t fr))
    (hu : P.underlying ty = some d) (hd : (match d with | .struct _ | .array _ _ => true | _ => false) = true) (hi : (P.info? ty).map (·.size) = some cs.size)
    (h : wpList P ops Q rest (a.put o.dst (.agg cs)) w) : wpList P ops Q (o :: rest) a w :=
  wp_when hw fun K hK => wp_load_row ty x ho g hx t cs fr d hg hu hd hi (hK _ _ h)
end
theorem chg3_base {B T : Nat} {own : Option Nat} {w w1 w2 : World} (hb : Below B w w1) (hc : Chg3 T own w1 w2) (hT : B ≤ T) (ho : ∀ g, own = some g → B ≤ g) (hB : B ≤ w1.heap.size) : Below B w w2 :=
  ⟨hc.os.trans hb.os, hc.tape.trans hb.tape, hc.output.trans hb.output, Nat.le_trans hb.size hc.size, fun k hk => (hc.block k (Nat.lt_of_lt_of_le hk hB) (by omega) (fun e => by have := ho k e.symm; omega)).trans (hb.block k hk)⟩
theorem chg3_blk {T k : Nat} {own : Option Nat} {w w' : World} {o : Obj} (hc : Chg3 T own w w') (h : w.heap[k]? = some o) (hT : k ≠ T) (ho : own ≠ some k) : w'.heap[k]? = some o :=
  (hc.block k (Array.getElem?_eq_some_iff.1 h).1 hT (Ne.symm ho)).trans h
/-- One map's entry put in, another map stays. -/
theorem mp_chg3 {w w' : World} {M T base M2 T2 base2 : Nat} {st st2 : Int} {sv sv2 : Value} {l l2 : List En} (h : Mp w M T base st sv l) (h2 : Mp w M2 T2 base2 st2 sv2 l2) (hc : Chg3 T2 sv2.ownBlock w w') (hM : M ≠ T2) (hT : T ≠ T2) (ho : ∀ g, sv.ownBlock = some g → sv2.ownBlock ≠ some g) : Mp w' M T base st sv l :=
  mp_keep h fun g hg hh => by
    rcases hh with rfl | rfl | hh
    · exact hc.block _ hg hM (Ne.symm (mp_own_ne h2 h.blk (fun cs fr e => by cases e)))
    · exact hc.block _ hg hT (Ne.symm (mp_own_ne h2 h.tb.blk (fun cs fr e => by cases e)))
    · refine hc.block g hg (fun e => ?_) (Ne.symm (ho g hh))
      subst e
      exact mp_own_ne h h2.tb.blk (fun cs fr e => by cases e) hh
theorem mp_ticks_far {w w' : World} {M T base T2 : Nat} {st k : Int} {sv : Value} {l : List En} (h : Mp w M T base st sv l) (ht : Ticks T2 1 w w' k) (hM : M ≠ T2) (hT : T ≠ T2) (ho : sv.ownBlock ≠ some T2) : Mp w' M T base st sv l :=
  mp_keep h fun g hg hh => by
    rcases hh with rfl | rfl | hh
    · exact ht.block _ hg hM
    · exact ht.block _ hg hT
    · exact ht.block g hg (fun e => ho (by rw [← e]; exact hh))
set_option maxHeartbeats 16000000 in
set_option maxRecDepth 100000 in
theorem law_Adds (p : Pf) (hp : p.a.ok) (s : Int) (h0 : -9223372036854775808 ≤ s) (h1 : s ≤ 9223372036854775807) (a : Ad) (ha : a.ok) (w : World) (hmx : MaxIs w) :
    Calls Tryd.prog 4 #[.agg (eP p), .int .i64 s, .agg (eA a)] w fun r w' => r = .returned (.bool true) ∧ Below w.heap.size w w' := by
  have HB := Aside0.mk (Below.refl w.heap.size w)
  have HMX := Aside0.mk hmx
  have HP := Aside0.mk hp
  have HA := Aside0.mk ha
  have HR3 := Aside0.mk (fun w => ref05_Good p hp w)
  have HR5 := Aside0.mk (fun w => ref04_Good a ha w)
  have HRA := Aside0.mk (fun w => ref01_Around s 3 (by decide) w)
  have HV := Aside0.mk (around_three s h0 h1)
  have HMQ := Aside0.mk (may_goodP hp)
  have HOQ := Aside0.mk (ok_goodP p)
  have HQN := Aside0.mk (show (goodP p).n ≤ 1000000 by
    have h1 := (maskN_range (goodA p.a) (aroundN p.n (wrap64 (bitsOf (goodA p.a).fam + 1)))).2
    have h2 := bitsOf_le (goodA p.a).fam
    show maskN _ _ ≤ _
    omega)
  have HOB := Aside0.mk (ok_goodA ha)
  have HMB := Aside0.mk (goodA_may ha)
  obtain ⟨q, hq⟩ : ∃ q, goodP p = q := ⟨_, rfl⟩
  obtain ⟨b, hb⟩ : ∃ b, goodA a = b := ⟨_, rfl⟩
  obtain ⟨v, hv⟩ : ∃ v, aroundN s 3 = v := ⟨_, rfl⟩
  rw [hq] at HR3 HMQ HOQ HQN
  rw [hb] at HR5 HOB HMB
  rw [hv] at HRA HV
  have HF1 := Aside0.mk (fine_setE fine_nil HOQ.out HMQ.out v)
  have HF2 := Aside0.mk (fine_setE fine_def HOQ.out HMQ.out v)
  have HL1 := Aside0.mk (show (setE [] q v).length = 1 from rfl)
  have HFR0 := Aside0.mk (fun (hu : unmapA b = b) (hh : hasB q b = false) => sp_far fine_def HOQ.out HMQ.out v HOB.out HMB.out.1 HMB.out.2 hu hh)
  have HSP0 := Aside0.mk (fun (hu : unmapA b = b) => sp_one HOQ.out HMQ.out v HOB.out HMB.out.1 HMB.out.2 hu)
  have HE1 := Aside0.mk (rfl : setE [] q v = setE [] q v)
  have HE2 := Aside0.mk (rfl : setE defL q v = setE defL q v)
  have HDL := Aside0.mk (show defL.length ≤ 1000 from Nat.le_trans fine_def.len (by decide))
  obtain ⟨l1, hl1⟩ : ∃ l, setE [] q v = l := ⟨_, rfl⟩
  obtain ⟨l2, hl2⟩ : ∃ l, setE defL q v = l := ⟨_, rfl⟩
  obtain ⟨s0, hs0⟩ : ∃ s0, spOf defL b = s0 := ⟨_, rfl⟩
  rw [hl1] at HF1 HL1 HSP0
  rw [hl2, hs0] at HFR0
  rw [hl2] at HF2
  replace HE1 := Aside0.mk hl1.symm
  replace HE2 := Aside0.mk hl2.symm
  have HN1 := Aside0.mk (show l1.length ≤ 1000 by rw [HL1.out]; decide)
  have HN2 := Aside0.mk (show l2.length ≤ 1000 from Nat.le_trans HF2.out.len (by decide))
  have HOF0 := Aside0.mk (fun (M T base : Nat) (sv : Value) (w : World) (hm : Mp w M T base ((0 : Nat) : Int) sv defL) => map_Of M T base 0 sv defL b HOB.out w hm fine_def.sorted HDL.out (by decide))
  rw [hs0] at HOF0
  clear hl1 hl2 hs0 hq hb hv hmx hp ha h0 h1
  go_enter Tryd.func4, Tryd.ntmps4
  go_wp2_with (first
    | ((with_reducible refine gate_dst (N := 3) rfl ?_); refine box_event ?hg (N := 3) ?hd (cs := eP p) (t := 35) ?hr ?_; (case hd => rfl); (case hg => rfl); (case hr => first | (go_simp; done) | (go_simp; rfl)); intro k3 hg w1 hbox hb; have H3 := Aside0.mk hbox; have HG3 := Aside0.mk (show w.heap.size ≤ k3 by rw [hg]; exact HB.out.size); replace HB := Aside0.mk (below_step HB.out hb); clear hb hg hbox)
    | ((with_reducible refine gate_dst (N := 5) rfl ?_); refine box_event ?hg (N := 5) ?hd (cs := eA a) (t := 28) ?hr ?_; (case hd => rfl); (case hg => rfl); (case hr => first | (go_simp; done) | (go_simp; rfl)); intro k5 hg w2 hbox hb; have H5 := Aside0.mk hbox; have HG5 := Aside0.mk (show w.heap.size ≤ k5 by rw [hg]; exact HB.out.size); have H35 := Aside0.mk (show k3 ≠ k5 by have h1 := (Array.getElem?_eq_some_iff.1 H3.out).1; omega); replace H3 := Aside0.mk (blk_below H3.out hb); replace HB := Aside0.mk (below_step HB.out hb); clear hb hg hbox)
    | ((with_reducible refine gate_dst (N := 12) rfl ?_); refine wpList_load_row rfl 35 (.tmp 3) rfl k3 rfl 35 (eP p) (0, 0) _ H3.out Tryd.underlying35 rfl (infoEP HP.out) ?_)
    | (go_at_call 12; refine (HR3.out _).mono ?_; rintro r w3 ⟨rfl, hb⟩; replace H3 := Aside0.mk (blk_below H3.out hb); replace H5 := Aside0.mk (blk_below H5.out hb); replace HB := Aside0.mk (below_step HB.out hb); clear hb)
    | ((with_reducible refine gate_store (t := 35) (p := 3) rfl ?_); refine wpList_store_row rfl 35 (.tmp 3) (.tmp 13) rfl k3 (eP q) rfl rfl 35 (eP p) H3.out (infoEP HOQ.out) ((eP_size HP.out).trans (eP_size HOQ.out).symm) (eP_one _) ?_; replace H3 := Aside0.mk (row_new (cells := eP q) H3.out); replace H5 := Aside0.mk ((row_far (cells := eP q) (Ne.symm H35.out)).trans H5.out); replace HB := Aside0.mk (below_row HB.out HG3.out (eP q)); generalize w3.setRow k3 (eP q) = w4 at H3 H5 HB ⊢)
    | ((with_reducible refine gate_dst (N := 14) rfl ?_); refine wpList_load_row rfl 28 (.tmp 5) rfl k5 rfl 28 (eA a) (0, 0) _ H5.out Tryd.underlying28 rfl (infoE HA.out) ?_)
    | (go_at_call 13; refine (HR5.out _).mono ?_; rintro r w5 ⟨rfl, hb⟩; replace H3 := Aside0.mk (blk_below H3.out hb); replace H5 := Aside0.mk (blk_below H5.out hb); replace HB := Aside0.mk (below_step HB.out hb); clear hb)
    | ((with_reducible refine gate_store (t := 28) (p := 5) rfl ?_); refine wpList_store_row rfl 28 (.tmp 5) (.tmp 15) rfl k5 (eA b) rfl rfl 28 (eA a) H5.out (infoE HOB.out) ((eA_size HA.out).trans (eA_size HOB.out).symm) (eA_one _) ?_; replace H5 := Aside0.mk (row_new (cells := eA b) H5.out); replace H3 := Aside0.mk ((row_far (cells := eA b) H35.out).trans H3.out); replace HB := Aside0.mk (below_row HB.out HG5.out (eA b)); generalize w5.setRow k5 (eA b) = w6 at H3 H5 HB ⊢)
    | (go_at_call 14; refine (HRA.out _).mono ?_; rintro r w7 ⟨rfl, hb⟩; replace H3 := Aside0.mk (blk_below H3.out hb); replace H5 := Aside0.mk (blk_below H5.out hb); replace HB := Aside0.mk (below_step HB.out hb); clear hb)
    | (go_at_call 7; refine (space_New0 _).mono ?_; rintro r w8 ⟨M1, sv1, rfl, hz, hm, hb⟩; obtain ⟨T1, hT1⟩ : ∃ T, w7.heap.size = T := ⟨_, rfl⟩; have HLT := Aside0.mk (show k3 < T1 ∧ k5 < T1 ∧ T1 ≤ M1 ∧ w.heap.size ≤ T1 from ⟨by rw [← hT1]; exact (Array.getElem?_eq_some_iff.1 H3.out).1, by rw [← hT1]; exact (Array.getElem?_eq_some_iff.1 H5.out).1, by rw [← hT1]; exact hz, by rw [← hT1]; exact HB.out.size⟩); rw [hT1] at hm; have HM1 := Aside0.mk hm; replace H3 := Aside0.mk (blk_below H3.out hb); replace H5 := Aside0.mk (blk_below H5.out hb); replace HB := Aside0.mk (below_step HB.out hb); clear hb hm hz hT1)
    | (go_at_call 15; refine (space_Default _ (maxis_below HMX.out HB.out)).mono ?_; rintro r w9 ⟨M2, sv2, rfl, hz, hm, hb⟩; obtain ⟨T2, hT2⟩ : ∃ T, w8.heap.size = T := ⟨_, rfl⟩; have HLT2 := Aside0.mk (show M1 < T2 ∧ T1 < T2 ∧ (∀ g, sv1.ownBlock = some g → g < T2) ∧ T2 ≤ M2 from ⟨by rw [← hT2]; exact (Array.getElem?_eq_some_iff.1 HM1.out.blk).1, by rw [← hT2]; exact (Array.getElem?_eq_some_iff.1 HM1.out.tb.blk).1, fun g hg => by rw [← hT2]; exact (HM1.out.tb.row.lt g hg).2, by rw [← hT2]; exact hz⟩); rw [hT2] at hm; have HM2 := Aside0.mk hm; replace H3 := Aside0.mk (blk_below H3.out hb); replace H5 := Aside0.mk (blk_below H5.out hb); replace HM1 := Aside0.mk (mp_below HM1.out hb); replace HB := Aside0.mk (below_step HB.out hb); clear hb hm hz hT2)
    | ((with_reducible refine gate_dst (N := 27) rfl ?_); refine wpList_load_row rfl 28 (.tmp 5) rfl k5 rfl 28 (eA b) (0, 0) _ H5.out Tryd.underlying28 rfl (infoE HOB.out) ?_)
    | (go_at_call 9; refine (HOF0.out _ _ _ _ _ HM2.out).mono ?_; rintro r w10 ⟨rfl, m, hmm, htk⟩; replace H3 := Aside0.mk (ticks_blk htk H3.out (by have h1 := HLT.out; have h2 := HLT2.out; omega)); replace H5 := Aside0.mk (ticks_blk htk H5.out (by have h1 := HLT.out; have h2 := HLT2.out; omega)); replace HM1 := Aside0.mk (mp_ticks_far HM1.out htk (by have h2 := HLT2.out; omega) (by have h2 := HLT2.out; omega) (mp_own_ne HM1.out HM2.out.tb.blk (fun cs fr e => by cases e))); replace HM2 := Aside0.mk (mp_ticks HM2.out htk); replace HB := Aside0.mk (ticks_new HB.out htk (by have h1 := HLT.out; have h2 := HLT2.out; omega) (Nat.le_refl _)); have HST := Aside0.mk (show 0 + m ≤ 1000000 by have := blen_le defL.length; have := HDL.out; omega); clear htk hmm)
    | ((with_reducible refine gate_dst (N := 30) rfl ?_); refine wpList_load_row rfl 35 (.tmp 3) rfl k3 rfl 35 (eP q) (0, 0) _ H3.out Tryd.underlying35 rfl (infoEP HOQ.out) ?_)
    | ((with_reducible refine gate_dst (N := 36) rfl ?_); refine wp_when_row (by kernel_rfl) 35 (.tmp 3) rfl k3 rfl 35 (eP q) (0, 0) _ H3.out Tryd.underlying35 rfl (infoEP HOQ.out) ?_)
    | (go_at_call 16; (with_reducible refine (map_Add_three M1 T1 T1 0 sv1 [] l1 q HOQ.out v HV.out HMQ.out HE1.out _ HM1.out List.Pairwise.nil (by decide) (Nat.le_of_lt (blk_lt HM1.out.tb.blk))).mono ?_); rintro r w11 ⟨rfl, HX, HC3⟩; have HY := Aside0.mk (show w10.heap.size ≤ w10.heap.size from Nat.le_refl _); have HOW := Aside0.mk (fun g (hg : sv2.ownBlock = some g) => And.intro (HM2.out.tb.row.lt g hg).1 (HM2.out.tb.row.lt g hg).2); replace H3 := Aside0.mk (chg3_blk HC3.out H3.out (by have h1 := HLT.out; omega) (mp_own_ne HM1.out H3.out (fun cs fr e => by cases e))); replace H5 := Aside0.mk (chg3_blk HC3.out H5.out (by have h1 := HLT.out; omega) (mp_own_ne HM1.out H5.out (fun cs fr e => by cases e))); replace HM2 := Aside0.mk (mp_chg3 HM2.out HM1.out HC3.out (by have h1 := HLT.out; have h2 := HLT2.out; omega) (by have h1 := HLT.out; have h2 := HLT2.out; omega) (fun g hg hg1 => by have h1 := HLT2.out.2.2.1 g hg1; have h2 := (HOW.out g hg).1; omega)); replace HB := Aside0.mk (chg3_base HB.out HC3.out HLT.out.2.2.2 (fun g hg => Nat.le_trans HLT.out.2.2.2 (HM1.out.tb.row.lt g hg).1) HB.out.size); obtain ⟨sv3, hm3, ho3⟩ := HX.out; replace HM1 := Aside0.mk hm3; have HO3 := Aside0.mk ho3; clear hm3 ho3 HX HC3)
    | (go_at_call 16; refine (map_Add_three M2 T2 T2 ((0 + m : Nat) : Int) sv2 defL l2 q HOQ.out v HV.out HMQ.out HE2.out _ HM2.out fine_def.sorted HDL.out (Nat.le_of_lt (blk_lt HM2.out.tb.blk))).mono ?_; rintro r w12 ⟨rfl, HX, HC3⟩; replace H3 := Aside0.mk (chg3_blk HC3.out H3.out (by have h1 := HLT.out; have h2 := HLT2.out; omega) (mp_own_ne HM2.out H3.out (fun cs fr e => by cases e))); replace H5 := Aside0.mk (chg3_blk HC3.out H5.out (by have h1 := HLT.out; have h2 := HLT2.out; omega) (mp_own_ne HM2.out H5.out (fun cs fr e => by cases e))); replace HM1 := Aside0.mk (mp_chg3 HM1.out HM2.out HC3.out (by have h1 := HLT.out; have h2 := HLT2.out; omega) (by have h1 := HLT.out; have h2 := HLT2.out; omega) (fun g hg hg2 => by have h2 := HOW.out g hg2; rcases HO3.out with h3 | ⟨g', h3, h4⟩; (have h5 := HLT2.out.2.2.1 g (h3.symm.trans hg); omega); (have h5 : g' = g := Option.some.inj (h3.symm.trans hg); omega))); replace HB := Aside0.mk (chg3_base HB.out HC3.out (by have h1 := HLT.out; have h2 := HLT2.out; omega) (fun g hg => Nat.le_trans (show w.heap.size ≤ T2 by have h1 := HLT.out; have h2 := HLT2.out; omega) (HM2.out.tb.row.lt g hg).1) HB.out.size); obtain ⟨sv4, hm4, ho4⟩ := HX.out; replace HM2 := Aside0.mk hm4; clear hm4 ho4 HX HC3))
  have HFAR := Aside0.mk (show k3 ≠ T1 ∧ T1 ≠ T2 ∧ T1 ≠ M2 ∧ M1 ≠ T2 by have h1 := HLT.out; have h2 := HLT2.out; omega)
  have HK1 := Aside0.mk (show k3 ≠ T1 ∧ k5 ≠ T1 by have h1 := HLT.out; omega)
  have HOW2 := Aside0.mk (mp_own_ne HM2.out HM1.out.tb.blk (fun cs fr e => by cases e))
  have HLE := Aside0.mk (show w.heap.size ≤ T1 ∧ w.heap.size ≤ T2 by have h1 := HLT.out; have h2 := HLT2.out; omega)
  obtain ⟨S, hS⟩ : ∃ S : World → Prop, S = fun w' => w'.heap[k5]? = some (.cells (eA b) 28 (0, 0)) := ⟨_, rfl⟩
  have HSx := Aside0.mk (show ∀ x : World, S x → x.heap[k5]? = some (.cells (eA b) 28 (0, 0)) by intro b h; rw [hS] at h; exact h)
  have HSi := Aside0.mk (show ∀ x : World, x.heap[k5]? = some (.cells (eA b) 28 (0, 0)) → S x by intro b h; rw [hS]; exact h)
  have s0 : S w12.drew := HSi.out _ H5.out
  have hb := bdrew (Below.refl w12.heap.size w12)
  replace HB := Aside0.mk (bdrew HB.out)
  replace HM1 := Aside0.mk (mp_below HM1.out hb)
  replace HM2 := Aside0.mk (mp_below HM2.out hb)
  replace H3 := Aside0.mk (blk_below H3.out hb)
  clear hS hb H5
  refine wp_region_held_drew (S := S) (by kernel_rfl) s0 (fun _ => ?_)
  generalize w12.drew = y0 at s0 HB HM1 HM2 H3 ⊢
  (try simp only [Act.put, List.getElem_toArray, List.getElem_cons_succ, List.getElem_cons_zero, List.setIfInBounds_toArray, List.set_cons_zero, List.set_cons_succ])
  refine wpAnyH_take (i := 0) (v := .agg (eA b)) rfl (by kernel_rfl) (by kernel_rfl) (by kernel_rfl) (fun _ _ _ h => h) (yields_row (by kernel_rfl) 28 (.tmp 5) rfl k5 rfl 28 (eA b) (0, 0) _ (fun w' h => (HSx.out w' h)) Tryd.underlying28 rfl (infoE HOB.out)) s0 ?_
  (try simp only [Act.put, List.getElem_toArray, List.getElem_cons_succ, List.getElem_cons_zero, List.setIfInBounds_toArray, List.set_cons_zero, List.set_cons_succ])
  refine wpAnyH_take (i := 2) (v := .agg (eA b)) rfl (by kernel_rfl) (by kernel_rfl) (by kernel_rfl) (fun _ _ _ h => h) (yields_row (by kernel_rfl) 28 (.tmp 5) rfl k5 rfl 28 (eA b) (0, 0) _ (fun w' h => (HSx.out w' h)) Tryd.underlying28 rfl (infoE HOB.out)) s0 ?_
  (try simp only [Act.put, List.getElem_toArray, List.getElem_cons_succ, List.getElem_cons_zero, List.setIfInBounds_toArray, List.set_cons_zero, List.set_cons_succ])
  refine held_step (i := 1) (by kernel_rfl) rfl (by kernel_rfl) (fun K hK => ?_)
  go_wp2_with (go_at_call 17; refine (ref04_Unmap b HOB.out _).mono ?_; rintro r y1 ⟨rfl, hb⟩; have s1 := HSi.out _ (blk_below (HSx.out _ s0) hb); replace H3 := Aside0.mk (blk_below H3.out hb); replace HM1 := Aside0.mk (mp_below HM1.out hb); replace HM2 := Aside0.mk (mp_below HM2.out hb); replace HB := Aside0.mk (below_step HB.out hb); clear hb)
  refine hK.out _ _ s1 ?_
  clear hK K s0
  have HOU := Aside0.mk (ok_unmap HOB.out)
  by_cases hu : unmapA b = b
  · have HUE := Aside0.mk (decide_eq_true hu)
    have HSP := Aside0.mk (HSP0.out hu)
    have HFR := Aside0.mk (HFR0.out hu)
    (try simp only [Act.put, List.getElem_toArray, List.getElem_cons_succ, List.getElem_cons_zero, List.setIfInBounds_toArray, List.set_cons_zero, List.set_cons_succ])
    refine wpAnyH_take (i := 3) (v := .bool false) rfl (by kernel_rfl) (by kernel_rfl) (by kernel_rfl) (fun _ _ _ h => h) (Or.inl ⟨by kernel_rfl, fun w' h => run_neq_op (r := true) rfl rfl rfl (by kernel_rfl) (by rw [show (10000 : Nat) = 9997 + 3 from rfl, eq_addr 9997 (unmapA b) b HOU.out HOB.out w', HUE.out])⟩) s1 ?_
    (try simp only [Act.put, List.getElem_toArray, List.getElem_cons_succ, List.getElem_cons_zero, List.setIfInBounds_toArray, List.set_cons_zero, List.set_cons_succ])
    refine wpAnyH_done (by kernel_rfl) ?_ _
    have H5 := Aside0.mk (HSx.out _ s1)
    clear s1
    clear hu HUE HSx HSi
    cases hh : hasB q b
    · have HH := Aside0.mk hh
      have HOF1 := Aside0.mk (fun (M T base : Nat) (sv : Value) (w : World) (hm : Mp w M T base ((0 : Nat) : Int) sv l1) => map_Of M T base 0 sv l1 b HOB.out w hm HF1.out.sorted HN1.out (by decide))
      rw [show spOf l1 b = 2 by rw [HSP.out, hh]; rfl] at HOF1
      have HOF2 := Aside0.mk (fun (M T base : Nat) (st : Nat) (sv : Value) (w : World) (hm : Mp w M T base (st : Int) sv l2) (hst : st ≤ 1000000) => map_Of M T base st sv l2 b HOB.out w hm HF2.out.sorted HN2.out hst)
      rw [show spOf l2 b = s0 from HFR.out hh] at HOF2
      clear hh
      go_wp2_with (first
        | ((with_reducible refine gate_dst (N := 46) rfl ?_); refine wpList_load_row rfl 35 (.tmp 3) rfl k3 rfl 35 (eP q) (0, 0) _ H3.out Tryd.underlying35 rfl (infoEP HOQ.out) ?_)
        | ((with_reducible refine gate_dst (N := 47) rfl ?_); refine wpList_load_row rfl 28 (.tmp 5) rfl k5 rfl 28 (eA b) (0, 0) _ H5.out Tryd.underlying28 rfl (infoE HOB.out) ?_)
        | (go_at_call 18; refine (ref05_Has q HOQ.out HQN.out b HOB.out _).mono ?_; rintro r z1 ⟨rfl, hb⟩; rw [HH.out]; replace H3 := Aside0.mk (blk_below H3.out hb); replace H5 := Aside0.mk (blk_below H5.out hb); replace HM1 := Aside0.mk (mp_below HM1.out hb); replace HM2 := Aside0.mk (mp_below HM2.out hb); replace HB := Aside0.mk (below_step HB.out hb); clear hb)
        | ((with_reducible refine gate_dst (N := 52) rfl ?_); refine wpList_load_row rfl 28 (.tmp 5) rfl k5 rfl 28 (eA b) (0, 0) _ H5.out Tryd.underlying28 rfl (infoE HOB.out) ?_)
        | (go_at_call 9; (with_reducible refine (HOF1.out _ _ _ _ _ HM1.out).mono ?_); rintro r z2 ⟨rfl, m1, hm1, htk⟩; replace H5 := Aside0.mk (ticks_blk htk H5.out HK1.out.2); replace HM2 := Aside0.mk (mp_ticks_far HM2.out htk (Ne.symm HFAR.out.2.2.1) (Ne.symm HFAR.out.2.1) HOW2.out); replace HM1 := Aside0.mk (mp_ticks HM1.out htk); replace HB := Aside0.mk (ticks_new HB.out htk HLE.out.1 (Nat.le_refl _)); clear htk hm1; have hf1 := blk_cell HM1.out.blk 0)
        | (go_at_call 9; refine (HOF2.out _ _ _ _ _ _ HM2.out HST.out).mono ?_; rintro r z4 ⟨rfl, m3, hm3, htk⟩; replace HB := Aside0.mk (ticks_new HB.out htk HLE.out.2 (Nat.le_refl _)); clear htk hm3)
        | ((with_reducible refine gate_dst (N := 68) rfl ?_); refine wp_when_row (by kernel_rfl) 28 (.tmp 5) rfl k5 rfl 28 (eA b) (0, 0) _ H5.out Tryd.underlying28 rfl (infoE HOB.out) ?_)
        | (go_at_call 19; refine (table_Len _ _ _ _ l1 _ HM1.out.tb).mono ?_; rintro r z3 ⟨rfl, hb⟩; rw [HL1.out]; replace H5 := Aside0.mk (blk_below H5.out hb); replace HM2 := Aside0.mk (mp_below HM2.out hb); replace HB := Aside0.mk (below_step HB.out hb); clear hb)
        | (go_at_call 11; refine (w07_lives.calls true _ (maxis_below HMX.out HB.out) rfl).mono ?_; rintro r z5 ⟨rfl, hb⟩; replace HB := Aside0.mk (below_step HB.out hb); clear hb))
      go_ret
      exact ⟨rfl, HB.out⟩
    · have HH := Aside0.mk hh
      have HOF1 := Aside0.mk (fun (M T base : Nat) (sv : Value) (w : World) (hm : Mp w M T base ((0 : Nat) : Int) sv l1) => map_Of M T base 0 sv l1 b HOB.out w hm HF1.out.sorted HN1.out (by decide))
      rw [show spOf l1 b = v by rw [HSP.out, hh]; rfl] at HOF1
      clear hh
      go_wp2_with (first
        | ((with_reducible refine gate_dst (N := 46) rfl ?_); refine wpList_load_row rfl 35 (.tmp 3) rfl k3 rfl 35 (eP q) (0, 0) _ H3.out Tryd.underlying35 rfl (infoEP HOQ.out) ?_)
        | ((with_reducible refine gate_dst (N := 47) rfl ?_); refine wpList_load_row rfl 28 (.tmp 5) rfl k5 rfl 28 (eA b) (0, 0) _ H5.out Tryd.underlying28 rfl (infoE HOB.out) ?_)
        | (go_at_call 18; refine (ref05_Has q HOQ.out HQN.out b HOB.out _).mono ?_; rintro r z1 ⟨rfl, hb⟩; rw [HH.out]; replace H3 := Aside0.mk (blk_below H3.out hb); replace H5 := Aside0.mk (blk_below H5.out hb); replace HM1 := Aside0.mk (mp_below HM1.out hb); replace HM2 := Aside0.mk (mp_below HM2.out hb); replace HB := Aside0.mk (below_step HB.out hb); clear hb)
        | ((with_reducible refine gate_dst (N := 52) rfl ?_); refine wpList_load_row rfl 28 (.tmp 5) rfl k5 rfl 28 (eA b) (0, 0) _ H5.out Tryd.underlying28 rfl (infoE HOB.out) ?_)
        | (go_at_call 9; refine (HOF1.out _ _ _ _ _ HM1.out).mono ?_; rintro r z2 ⟨rfl, m1, hm1, htk⟩; replace H5 := Aside0.mk (ticks_blk htk H5.out HK1.out.2); replace HM2 := Aside0.mk (mp_ticks_far HM2.out htk (Ne.symm HFAR.out.2.2.1) (Ne.symm HFAR.out.2.1) HOW2.out); replace HM1 := Aside0.mk (mp_ticks HM1.out htk); replace HB := Aside0.mk (ticks_new HB.out htk HLE.out.1 (Nat.le_refl _)); clear htk hm1; have hf1 := blk_cell HM1.out.blk 0)
        | (go_at_call 19; refine (table_Len _ _ _ _ l1 _ HM1.out.tb).mono ?_; rintro r z3 ⟨rfl, hb⟩; rw [HL1.out]; replace H5 := Aside0.mk (blk_below H5.out hb); replace HM2 := Aside0.mk (mp_below HM2.out hb); replace HB := Aside0.mk (below_step HB.out hb); clear hb)
        | (go_at_call 11; refine (w07_lives.calls true _ (maxis_below HMX.out HB.out) rfl).mono ?_; rintro r z5 ⟨rfl, hb⟩; replace HB := Aside0.mk (below_step HB.out hb); clear hb))
      go_ret
      exact ⟨rfl, HB.out⟩
  · have HUE := Aside0.mk (decide_eq_false hu)
    (try simp only [Act.put, List.getElem_toArray, List.getElem_cons_succ, List.getElem_cons_zero, List.setIfInBounds_toArray, List.set_cons_zero, List.set_cons_succ])
    refine wpAnyH_take (i := 3) (v := .bool true) rfl (by kernel_rfl) (by kernel_rfl) (by kernel_rfl) (fun _ _ _ h => h) (Or.inl ⟨by kernel_rfl, fun w' h => run_neq_op (r := false) rfl rfl rfl (by kernel_rfl) (by rw [show (10000 : Nat) = 9997 + 3 from rfl, eq_addr 9997 (unmapA b) b HOU.out HOB.out w', HUE.out])⟩) s1 ?_
    (try simp only [Act.put, List.getElem_toArray, List.getElem_cons_succ, List.getElem_cons_zero, List.setIfInBounds_toArray, List.set_cons_zero, List.set_cons_succ])
    refine wpAnyH_done (by kernel_rfl) ?_ _
    have H5 := Aside0.mk (HSx.out _ s1)
    clear s1
    clear hu HUE HSx HSi
    go_wp2_with (first
      | (go_at_call 11; refine (w07_lives.calls true _ (maxis_below HMX.out HB.out) rfl).mono ?_; rintro r z5 ⟨rfl, hb⟩; replace HB := Aside0.mk (below_step HB.out hb); clear hb))
    go_ret
    exact ⟨rfl, HB.out⟩
end Go.Proofs.YtjilnigmbnmlfaaDoor.P
