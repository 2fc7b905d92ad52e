/-
  The document's table of spaces, and an address's; law SpaceDefault.
-/
import Derived.Test.YtjilnigmbnmlfaaGreatDoorSpaX
namespace Go.Proofs.YtjilnigmbnmlfaaGreatDoor.P
open Go.RowKit Go.Proofs.YtjilnigmbnmlfaaGreatDoorW.PrintWords Go.Proofs.YtjilnigmbnmlfaaGreatDoorW.PrintLast Go.Proofs.YtjilnigmbnmlfaaGreatDoorW.PrintMore
set_option linter.unusedVariables false
set_option linter.unusedSimpArgs false
theorem fine_small {l : List En} {n : Nat} (h : Fine l n) : ∀ e ∈ l, e.p.n ≤ 1000000 := fun e he => by
  have h1 := h.may e he
  rw [mayP_iff] at h1
  have h2 := bitsOf_le e.p.a.fam
  have h3 : e.p.n ≤ bitsOf e.p.a.fam := h1.2.2.2.1
  omega
theorem ow_below {w w' : World} {u : Value} {l : List En} (h : Ow w u l) (hb : Below w.heap.size w w') : Ow w' u l := own_keep h fun g hg => hb.block g (h.lt g hg).2
theorem ref07_Of_false (u : Value) (l : List En) (a c : Ad) (ha : a.ok) (hc : c.ok) (hu : unmapA a = c) (x : En) (hx : x.p.a.ok)
    (hfd : ∀ w, Ow w u l → Calls Tryz.prog 25 #[u, .agg (eA c)] w fun r w' => r = .returned (.tuple #[.agg (eE x), .bool false]) ∧ Below w.heap.size w w') (w : World) (ho : Ow w u l) :
    Calls Tryz.prog 9 #[u, .agg (eA a)] w fun r w' => r = .returned (.int .i64 2) ∧ Below w.heap.size w w' := by
  have HB := Aside0.mk (Below.refl w.heap.size w)
  have HA := Aside0.mk ha
  have HC := Aside0.mk hc
  have HU := Aside0.mk hu
  have HX := Aside0.mk hx
  have HFD := Aside0.mk hfd
  have HOW := Aside0.mk ho
  clear ha hc hu hx hfd ho
  go_enter Tryz.func9, Tryz.ntmps9
  go_wp2_with (first
    | ((with_reducible refine gate_dst (N := 3) rfl ?_); refine box_event ?hg (N := 3) ?hd (cs := eA a) (t := 24) ?hr ?_; (case hd => rfl); (case hg => rfl); (case hr => first | (go_simp; done) | (go_simp; rfl)); intro k3 hg w2 hbox hb; have H3 := Aside0.mk hbox; replace HOW := Aside0.mk (ow_below HOW.out hb); replace HB := Aside0.mk (below_step HB.out hb); clear hb hg hbox)
    | ((with_reducible refine gate_dst (N := 9) rfl ?_); refine wpList_load_row rfl 24 (.tmp 3) rfl k3 rfl 24 (eA a) (0, 0) _ H3.out Tryz.underlying24 rfl (infoE HA.out) ?_)
    | (go_at_call 17; refine (ref04_Unmap a HA.out _).mono ?_; rintro r w3 ⟨rfl, hb⟩; rw [HU.out]; replace HOW := Aside0.mk (ow_below HOW.out hb); replace HB := Aside0.mk (below_step HB.out hb); clear hb)
    | (go_at_call 25; refine (HFD.out _ HOW.out).mono ?_; rintro r w4 ⟨rfl, hb⟩; replace HB := Aside0.mk (below_step HB.out hb); clear hb)
    | ((with_reducible refine gate_dst (N := 5) rfl ?_); refine box_event ?hg (N := 5) ?hd (cs := eE noE) (t := 60) ?hr ?_; (case hd => rfl); (case hg => rfl); (case hr => first | (go_simp; done) | (go_simp; rfl)); intro k5 hg w5 hbox hb; have H5 := Aside0.mk hbox; have HG5 := Aside0.mk (show w.heap.size ≤ k5 by rw [hg]; exact HB.out.size); replace HB := Aside0.mk (below_step HB.out hb); clear hb hg hbox)
    | ((with_reducible refine gate_store (t := 60) (p := 5) rfl ?_); refine wpList_store_row rfl 60 (.tmp 5) (.tmp 12) rfl k5 (eE x) rfl rfl 60 (eE noE) H5.out (infoEr6 HX.out) ((eE_size ok_noE).trans (eE_size HX.out).symm) (eE_one _) ?_; replace H5 := Aside0.mk (row_new (cells := eE x) H5.out); replace HB := Aside0.mk (below_row HB.out HG5.out (eE x)); generalize w5.setRow k5 (eE x) = w6 at HB H5 ⊢; have cv := val_cell HX.out H5.out))
  go_ret
  exact ⟨rfl, HB.out⟩
theorem ref07_Of_true (u : Value) (l : List En) (a c : Ad) (ha : a.ok) (hc : c.ok) (hu : unmapA a = c) (x : En) (hx : x.p.a.ok)
    (hfd : ∀ w, Ow w u l → Calls Tryz.prog 25 #[u, .agg (eA c)] w fun r w' => r = .returned (.tuple #[.agg (eE x), .bool true]) ∧ Below w.heap.size w w') (w : World) (ho : Ow w u l) :
    Calls Tryz.prog 9 #[u, .agg (eA a)] w fun r w' => r = .returned (.int .i64 x.v) ∧ Below w.heap.size w w' := by
  have HB := Aside0.mk (Below.refl w.heap.size w)
  have HA := Aside0.mk ha
  have HC := Aside0.mk hc
  have HU := Aside0.mk hu
  have HX := Aside0.mk hx
  have HFD := Aside0.mk hfd
  have HOW := Aside0.mk ho
  clear ha hc hu hx hfd ho
  go_enter Tryz.func9, Tryz.ntmps9
  go_wp2_with (first
    | ((with_reducible refine gate_dst (N := 3) rfl ?_); refine box_event ?hg (N := 3) ?hd (cs := eA a) (t := 24) ?hr ?_; (case hd => rfl); (case hg => rfl); (case hr => first | (go_simp; done) | (go_simp; rfl)); intro k3 hg w2 hbox hb; have H3 := Aside0.mk hbox; replace HOW := Aside0.mk (ow_below HOW.out hb); replace HB := Aside0.mk (below_step HB.out hb); clear hb hg hbox)
    | ((with_reducible refine gate_dst (N := 9) rfl ?_); refine wpList_load_row rfl 24 (.tmp 3) rfl k3 rfl 24 (eA a) (0, 0) _ H3.out Tryz.underlying24 rfl (infoE HA.out) ?_)
    | (go_at_call 17; refine (ref04_Unmap a HA.out _).mono ?_; rintro r w3 ⟨rfl, hb⟩; rw [HU.out]; replace HOW := Aside0.mk (ow_below HOW.out hb); replace HB := Aside0.mk (below_step HB.out hb); clear hb)
    | (go_at_call 25; refine (HFD.out _ HOW.out).mono ?_; rintro r w4 ⟨rfl, hb⟩; replace HB := Aside0.mk (below_step HB.out hb); clear hb)
    | ((with_reducible refine gate_dst (N := 5) rfl ?_); refine box_event ?hg (N := 5) ?hd (cs := eE noE) (t := 60) ?hr ?_; (case hd => rfl); (case hg => rfl); (case hr => first | (go_simp; done) | (go_simp; rfl)); intro k5 hg w5 hbox hb; have H5 := Aside0.mk hbox; have HG5 := Aside0.mk (show w.heap.size ≤ k5 by rw [hg]; exact HB.out.size); replace HB := Aside0.mk (below_step HB.out hb); clear hb hg hbox)
    | ((with_reducible refine gate_store (t := 60) (p := 5) rfl ?_); refine wpList_store_row rfl 60 (.tmp 5) (.tmp 12) rfl k5 (eE x) rfl rfl 60 (eE noE) H5.out (infoEr6 HX.out) ((eE_size ok_noE).trans (eE_size HX.out).symm) (eE_one _) ?_; replace H5 := Aside0.mk (row_new (cells := eE x) H5.out); replace HB := Aside0.mk (below_row HB.out HG5.out (eE x)); generalize w5.setRow k5 (eE x) = w6 at HB H5 ⊢; have cv := val_cell HX.out H5.out))
  go_ret
  exact ⟨rfl, HB.out⟩
theorem ref07_Of (u : Value) (l : List En) (n : Nat) (hf : Fine l n) (hn : l.length ≤ 1000) (a : Ad) (ha : a.ok) (hm : mayA a = true ∧ a.fam ≠ 0) (w : World) (ho : Ow w u l) :
    Calls Tryz.prog 9 #[u, .agg (eA a)] w fun r w' => r = .returned (.int .i64 (spOf l a)) ∧ Below w.heap.size w w' := by
  have hu := unmap_may ha hm
  have he := findQ_bestE hf.ok hf.sorted hf.may (ok_unmap ha) hu.1 hu.2
  have hfd := fun w ho => ref_Find u l hf.ok (fine_small hf) (unmapA a) (ok_unmap ha) w ho hn
  rw [← he] at hfd
  unfold spOf
  cases hq : findQ l (unmapA a) with
  | none =>
    rw [hq] at hfd
    exact ref07_Of_false u l a _ ha (ok_unmap ha) rfl noE ok_noE hfd w ho
  | some x =>
    rw [hq] at hfd
    have hx := ok_findQ hf.ok (unmapA a)
    rw [hq] at hx
    exact ref07_Of_true u l a _ ha (ok_unmap ha) rfl x hx hfd w ho
/-! ### the document's first table -/
def dfR : List (ByteArray × Pf) := dfs0 ++ dfs1
def dl : Nat → List En
  | 0 => []
  | i + 1 => match dfR[i]? with
    | some x => setE (dl i) x.2 (if 4 ≤ i then 1 else 0)
    | none => dl i
theorem dl_at {i : Nat} {x : ByteArray × Pf} (h : dfR[i]? = some x) : dl (i + 1) = setE (dl i) x.2 (if 4 ≤ i then 1 else 0) := by rw [dl, h]
theorem fine_dl : ∀ i, i ≤ 11 → Fine (dl i) i
  | 0, _ => fine_nil
  | i + 1, h => by
    obtain ⟨x, hx⟩ : ∃ x, dfR[i]? = some x := ⟨dfR[i]'(by show i < 11; omega), List.getElem?_eq_getElem _⟩
    have hp := dfs_okR i x hx
    rw [dl_at hx]
    exact fine_setE (fine_dl i (by omega)) hp.ok hp.may _
theorem ow_nil (w : World) : Ow w (.slice none 0 0) [] := World.ownsRow_nil w 0 60 19
theorem ow_row {w : World} {u : Value} {l : List En} {g : Nat} {cells : Array Value} {t : TypeId} {cs : Array Value} (h : Ow w u l) (hg : w.heap[g]? = some (.cells cs t (0, 0))) (ht : t ≠ 60) : Ow (w.setRow g cells) u l :=
  own_keep h fun k hk => row_far (fun e => by subst e; exact own_block_ne h hg ht hk)
theorem ref_SetY (u : Value) (l : List En) (hl : okE l) (hs : Sorted l) (p : Pf) (hp : p.a.ok) (v : Int) (hm : mayQ p = true) (l2 : List En) (hl2 : l2 = setE l p v) (w : World) (hr : Ow w u l) (hn : l.length ≤ 1000) :
    Calls Tryz.prog 22 #[u, .agg (eP p), .int .i64 v] w fun r w' => ∃ u', r = .returned (.tuple #[u', .int .i64 0]) ∧ Ow w' u' l2 ∧ Below w.heap.size w w' := by
  subst hl2
  have := ref_Set u l hl hs p hp v w hr hn
  rw [if_pos hm, if_pos hm] at this
  exact this
set_option maxHeartbeats 8000000 in
set_option maxRecDepth 100000 in
theorem ref07_Default (w : World) (hmx : MaxIs w) : Calls Tryz.prog 7 #[] w fun r w' => ∃ u, r = .returned u ∧ Ow w' u defL ∧ Below w.heap.size w w' := by
  have HB := Aside0.mk (Below.refl w.heap.size w)
  have HMX := Aside0.mk hmx
  clear hmx
  go_enter Tryz.func7, Tryz.ntmps7
  go_wp2
  obtain ⟨gA, hgA⟩ : ∃ g, w.heap.size = g := ⟨_, rfl⟩
  obtain ⟨w2, hw2⟩ : ∃ w2, w.alloc (.cells (strsOf dfR) 9) = w2 := ⟨_, rfl⟩
  have hb12 : Below w.heap.size w w2 := by rw [← hw2]; exact (Below.refl _ w).alloc (Nat.le_refl _) _
  have HR := Aside0.mk (show w2.heap[gA]? = some (.cells (strsOf dfR) 9 (0, 0)) by
    rw [← hw2, ← hgA]
    exact World.alloc_heap_new w _)
  replace HB := Aside0.mk (below_step HB.out hb12)
  have HG := Aside0.mk (show w.heap.size ≤ gA by rw [hgA]; exact Nat.le_refl _)
  change Code.wp _ _ _ _ (w.alloc (.cells (strsOf dfR) 9))
  rw [hw2]
  simp only [hgA]
  clear hw2 hb12 hgA
  go_loopw [2, 3] (fun v2 v3 wr => ∃ (i : Nat) (u : Value), v2 = u ∧ v3 = .int .i64 (i : Int) ∧ Aside0 (i ≤ 11) ∧ Aside0 (Ow wr u (dl i)) ∧ Aside0 (wr.heap[gA]? = some (.cells (strsOf dfR) 9 (0, 0))) ∧ Aside0 (Below w.heap.size w wr)) (fun _ v3 _ => 11 - (intOf v3).toNat)
  case atStart => exact ⟨0, _, rfl, rfl, ⟨Nat.zero_le _⟩, ⟨ow_nil _⟩, HR, HB⟩
  case round =>
    clear HR HB
    obtain ⟨i, u, rfl, rfl, HI, HOW, HR, HB⟩ := hrel
    by_cases hi : i < 11
    · have e0 : decide ((i : Int) < 11) = true := decide_eq_true (by omega)
      have e0n : decide (i < 11) = true := decide_eq_true hi
      have e1 : (0 : Int) ≤ (i : Int) := Int.natCast_nonneg _
      have e2 : (i : Int) < 11 := by omega
      obtain ⟨x, hx⟩ : ∃ x, dfR[i]? = some x := ⟨dfR[i]'hi, List.getElem?_eq_getElem hi⟩
      have HPF := Aside0.mk (dfs_okR i x hx)
      have cp := strs_cell HR.out hx
      have HFI := Aside0.mk (fine_dl i (by omega))
      have HLI := Aside0.mk (show (dl i).length ≤ 1000 by have := HFI.out.len; omega)
      have E1 := Aside0.mk (wrap_up6 i (by omega))
      have HSN := Aside0.mk (dl_at hx)
      clear hx
      by_cases h4 : 4 ≤ i
      · have f0 : decide ((4 : Int) ≤ (i : Int)) = true := decide_eq_true (by omega)
        have f0n : decide (4 ≤ i) = true := decide_eq_true h4
        rw [if_pos h4] at HSN
        clear h4
        go_wp2_with (first
          | (go_at_call 21; refine (HPF.out.run _ (maxis_below HMX.out HB.out)).mono ?_; rintro r y1 ⟨rfl, hb⟩; replace HOW := Aside0.mk (ow_below HOW.out hb); replace HR := Aside0.mk (blk_below HR.out hb); replace HB := Aside0.mk (below_step HB.out hb); clear hb cp)
          | ((with_reducible refine gate_dst (N := 4) rfl ?_); refine box_event ?hg (N := 4) ?hd (cs := eP noP) (t := 40) ?hr ?_; (case hd => rfl); (case hg => rfl); (case hr => first | (go_simp; done) | (go_simp; rfl)); intro k4 hg y2 hbox hb; have H4 := Aside0.mk hbox; have HG4 := Aside0.mk (show w.heap.size ≤ k4 by rw [hg]; exact HB.out.size); have HNA := Aside0.mk (show gA ≠ k4 by have h1 := (Array.getElem?_eq_some_iff.1 HR.out).1; omega); replace HOW := Aside0.mk (ow_below HOW.out hb); replace HR := Aside0.mk (blk_below HR.out hb); replace HB := Aside0.mk (below_step HB.out hb); clear hb hg hbox)
          | ((with_reducible refine gate_store (t := 40) (p := 4) rfl ?_); refine wpList_store_row rfl 40 (.tmp 4) (.tmp 22) rfl k4 (eP x.2) rfl rfl 40 (eP noP) H4.out (infoEP HPF.out.ok) ((show (eP noP).size = 18 from rfl).trans (eP_size HPF.out.ok).symm) (eP_one _) ?_; replace HOW := Aside0.mk (ow_row (cells := eP x.2) HOW.out H4.out (by decide)); replace H4 := Aside0.mk (row_new (cells := eP x.2) H4.out); replace HR := Aside0.mk ((row_far (cells := eP x.2) HNA.out).trans HR.out); replace HB := Aside0.mk (below_row HB.out HG4.out (eP x.2)); generalize y2.setRow k4 (eP x.2) = y3 at H4 HOW HR HB ⊢)
          | ((with_reducible refine gate_dst (N := 28) rfl ?_); refine wpList_load_row rfl 40 (.tmp 4) rfl k4 rfl 40 (eP x.2) (0, 0) _ H4.out Tryz.underlying40 rfl (infoEP HPF.out.ok) ?_)
          | (go_at_call 22; refine (ref_SetY _ (dl i) HFI.out.ok HFI.out.sorted x.2 HPF.out.ok 1 HPF.out.may (dl (i + 1)) HSN.out _ HOW.out HLI.out).mono ?_; rintro r y4 ⟨u', rfl, ho, hb⟩; have HO2 := Aside0.mk ho; replace HR := Aside0.mk (blk_below HR.out hb); replace HB := Aside0.mk (below_step HB.out hb); clear hb ho))
        go_roundw
        case rel => exact ⟨i + 1, _, rfl, by first | rfl | exact congrArg (Value.int .i64) E1.out | exact congrArg (Value.int .i64) (by omega), ⟨by omega⟩, HO2, HR, HB⟩
        case measure => exact measure_up 11 i _ (by first | rfl | exact E1.out | omega) (by omega)
      · have f0 : decide ((4 : Int) ≤ (i : Int)) = false := decide_eq_false (by omega)
        have f0n : decide (4 ≤ i) = false := decide_eq_false h4
        rw [if_neg h4] at HSN
        clear h4
        go_wp2_with (first
          | (go_at_call 21; refine (HPF.out.run _ (maxis_below HMX.out HB.out)).mono ?_; rintro r y1 ⟨rfl, hb⟩; replace HOW := Aside0.mk (ow_below HOW.out hb); replace HR := Aside0.mk (blk_below HR.out hb); replace HB := Aside0.mk (below_step HB.out hb); clear hb cp)
          | ((with_reducible refine gate_dst (N := 4) rfl ?_); refine box_event ?hg (N := 4) ?hd (cs := eP noP) (t := 40) ?hr ?_; (case hd => rfl); (case hg => rfl); (case hr => first | (go_simp; done) | (go_simp; rfl)); intro k4 hg y2 hbox hb; have H4 := Aside0.mk hbox; have HG4 := Aside0.mk (show w.heap.size ≤ k4 by rw [hg]; exact HB.out.size); have HNA := Aside0.mk (show gA ≠ k4 by have h1 := (Array.getElem?_eq_some_iff.1 HR.out).1; omega); replace HOW := Aside0.mk (ow_below HOW.out hb); replace HR := Aside0.mk (blk_below HR.out hb); replace HB := Aside0.mk (below_step HB.out hb); clear hb hg hbox)
          | ((with_reducible refine gate_store (t := 40) (p := 4) rfl ?_); refine wpList_store_row rfl 40 (.tmp 4) (.tmp 22) rfl k4 (eP x.2) rfl rfl 40 (eP noP) H4.out (infoEP HPF.out.ok) ((show (eP noP).size = 18 from rfl).trans (eP_size HPF.out.ok).symm) (eP_one _) ?_; replace HOW := Aside0.mk (ow_row (cells := eP x.2) HOW.out H4.out (by decide)); replace H4 := Aside0.mk (row_new (cells := eP x.2) H4.out); replace HR := Aside0.mk ((row_far (cells := eP x.2) HNA.out).trans HR.out); replace HB := Aside0.mk (below_row HB.out HG4.out (eP x.2)); generalize y2.setRow k4 (eP x.2) = y3 at H4 HOW HR HB ⊢)
          | ((with_reducible refine gate_dst (N := 28) rfl ?_); refine wpList_load_row rfl 40 (.tmp 4) rfl k4 rfl 40 (eP x.2) (0, 0) _ H4.out Tryz.underlying40 rfl (infoEP HPF.out.ok) ?_)
          | (go_at_call 22; refine (ref_SetY _ (dl i) HFI.out.ok HFI.out.sorted x.2 HPF.out.ok 0 HPF.out.may (dl (i + 1)) HSN.out _ HOW.out HLI.out).mono ?_; rintro r y4 ⟨u', rfl, ho, hb⟩; have HO2 := Aside0.mk ho; replace HR := Aside0.mk (blk_below HR.out hb); replace HB := Aside0.mk (below_step HB.out hb); clear hb ho))
        go_roundw
        case rel => exact ⟨i + 1, _, rfl, by first | rfl | exact congrArg (Value.int .i64) E1.out | exact congrArg (Value.int .i64) (by omega), ⟨by omega⟩, HO2, HR, HB⟩
        case measure => exact measure_up 11 i _ (by first | rfl | exact E1.out | omega) (by omega)
    · have hin : i = 11 := by have := HI.out; omega
      subst hin
      replace HOW := Aside0.mk (show Ow wr _ defL from HOW.out)
      go_wp2
      go_ret
      exact ⟨_, rfl, HOW.out, HB.out⟩
set_option maxHeartbeats 16000000 in
set_option maxRecDepth 100000 in
theorem law_Default (a : Ad) (ha : a.ok) (w : World) (hmx : MaxIs w) :
    Calls Tryz.prog 3 #[.agg (eA a)] w fun r w' => r = .returned (.bool true) ∧ Below w.heap.size w w' := by
  have HB := Aside0.mk (Below.refl w.heap.size w)
  have HMX := Aside0.mk hmx
  have HA := Aside0.mk ha
  have HR5 := Aside0.mk (fun w => ref04_Good a ha w)
  have HOB := Aside0.mk (ok_goodA ha)
  have HMB := Aside0.mk (goodA_may ha)
  obtain ⟨b, hb⟩ : ∃ b, goodA a = b := ⟨_, rfl⟩
  rw [hb] at HR5 HOB HMB
  obtain ⟨s0, hs0⟩ : ∃ s0, spOf defL b = s0 := ⟨_, rfl⟩
  have HDL := Aside0.mk (show defL.length ≤ 1000 from Nat.le_trans fine_def.len (by decide))
  have HOF0 := Aside0.mk (fun (M T base : Nat) (sv : Value) (w : World) (hm : Mp w M T base ((0 : Nat) : Int) sv defL) => map_Of M T base 0 sv defL b HOB.out w hm fine_def.sorted HDL.out (by decide))
  have HRF := Aside0.mk (fun (u : Value) (w : World) (ho : Ow w u defL) => ref07_Of u defL 11 fine_def HDL.out b HOB.out HMB.out w ho)
  rw [hs0] at HOF0 HRF
  clear hs0 hb hmx ha
  go_enter Tryz.func3, Tryz.ntmps3
  go_wp2_with (first
    | ((with_reducible refine gate_dst (N := 1) rfl ?_); refine box_event ?hg (N := 1) ?hd (cs := eA a) (t := 24) ?hr ?_; (case hd => rfl); (case hg => rfl); (case hr => first | (go_simp; done) | (go_simp; rfl)); intro k1 hg w1 hbox hb; have H1 := Aside0.mk hbox; have HG1 := Aside0.mk (show w.heap.size ≤ k1 by rw [hg]; exact HB.out.size); replace HB := Aside0.mk (below_step HB.out hb); clear hb hg hbox)
    | ((with_reducible refine gate_dst (N := 5) rfl ?_); refine wpList_load_row rfl 24 (.tmp 1) rfl k1 rfl 24 (eA a) (0, 0) _ H1.out Tryz.underlying24 rfl (infoE HA.out) ?_)
    | (go_at_call 5; refine (HR5.out _).mono ?_; rintro r w2 ⟨rfl, hb⟩; replace H1 := Aside0.mk (blk_below H1.out hb); replace HB := Aside0.mk (below_step HB.out hb); clear hb)
    | ((with_reducible refine gate_store (t := 24) (p := 1) rfl ?_); refine wpList_store_row rfl 24 (.tmp 1) (.tmp 6) rfl k1 (eA b) rfl rfl 24 (eA a) H1.out (infoE HOB.out) ((eA_size HA.out).trans (eA_size HOB.out).symm) (eA_one _) ?_; replace H1 := Aside0.mk (row_new (cells := eA b) H1.out); replace HB := Aside0.mk (below_row HB.out HG1.out (eA b)); generalize w2.setRow k1 (eA b) = w3 at H1 HB ⊢)
    | (go_at_call 6; refine (space_Default _ (maxis_below HMX.out HB.out)).mono ?_; rintro r w4 ⟨M, sv, rfl, hz, hm, hb⟩; obtain ⟨T, hT⟩ : ∃ T, w3.heap.size = T := ⟨_, rfl⟩; have HLT := Aside0.mk (show k1 < T ∧ w.heap.size ≤ T ∧ T ≤ M from ⟨by rw [← hT]; exact (Array.getElem?_eq_some_iff.1 H1.out).1, by rw [← hT]; exact HB.out.size, by rw [← hT]; exact hz⟩); rw [hT] at hm; have HM := Aside0.mk hm; replace H1 := Aside0.mk (blk_below H1.out hb); replace HB := Aside0.mk (below_step HB.out hb); clear hb hm hz hT)
    | (go_at_call 7; refine (ref07_Default _ (maxis_below HMX.out HB.out)).mono ?_; rintro r w5 ⟨u, rfl, ho, hb⟩; have HOW := Aside0.mk ho; replace H1 := Aside0.mk (blk_below H1.out hb); replace HM := Aside0.mk (mp_below HM.out hb); replace HB := Aside0.mk (below_step HB.out hb); clear hb ho))
  obtain ⟨Au, cap, Gu, rfl, hrdu⟩ := ow_rd HOW.out fine_def.ok
  clear hrdu
  obtain ⟨nl, hnl⟩ : ∃ n : Nat, defL.length = n := ⟨_, rfl⟩
  have HNL := Aside0.mk hnl
  rw [hnl] at HOW ⊢
  clear hnl
  obtain ⟨S, hS⟩ : ∃ S : World → Prop, S = fun w' => w'.heap[k1]? = some (.cells (eA b) 24 (0, 0)) ∧ w'.heap[M]? = some (.cells #[.pointer (some ⟨T, 0, none⟩)] 35 (0, 0)) := ⟨_, rfl⟩
  have HSx := Aside0.mk (show ∀ x : World, S x → x.heap[k1]? = some (.cells (eA b) 24 (0, 0)) ∧ x.heap[M]? = some (.cells #[.pointer (some ⟨T, 0, none⟩)] 35 (0, 0)) by intro b h; rw [hS] at h; exact h)
  have HSi := Aside0.mk (show ∀ x : World, x.heap[k1]? = some (.cells (eA b) 24 (0, 0)) → x.heap[M]? = some (.cells #[.pointer (some ⟨T, 0, none⟩)] 35 (0, 0)) → S x by intro b h h'; rw [hS]; exact ⟨h, h'⟩)
  have s0 : S w5.drew := HSi.out _ H1.out HM.out.blk
  have hb := bdrew (Below.refl w5.heap.size w5)
  replace HB := Aside0.mk (bdrew HB.out)
  replace HM := Aside0.mk (mp_below HM.out hb)
  replace HOW := Aside0.mk (own_keep HOW.out (fun g hg => hb.block g (HOW.out.lt g hg).2))
  clear hS hb H1
  have HNM := Aside0.mk (show k1 ≠ T by have h1 := HLT.out; omega)
  refine wp_region_held_drew (S := S) (by kernel_rfl) s0 (fun _ => ?_)
  generalize w5.drew = y0 at s0 HB HM HOW ⊢
  (try simp only [Act.put, List.getElem_toArray, List.getElem_cons_succ, List.getElem_cons_zero, List.setIfInBounds_toArray, List.set_cons_zero, List.set_cons_succ])
  refine wpAnyH_take (i := 0) (v := .pointer (some ⟨M, 0, none⟩)) rfl (by kernel_rfl) (by kernel_rfl) (by kernel_rfl) (fun _ _ _ h => h) (Or.inl ⟨by kernel_rfl, fun w' h => by first | (go_simp; done) | (go_simp; rfl)⟩) s0 ?_
  (try simp only [Act.put, List.getElem_toArray, List.getElem_cons_succ, List.getElem_cons_zero, List.setIfInBounds_toArray, List.set_cons_zero, List.set_cons_succ])
  refine wpAnyH_take (i := 1) (v := .agg (eA b)) rfl (by kernel_rfl) (by kernel_rfl) (by kernel_rfl) (fun _ _ _ h => h) (yields_row (by kernel_rfl) 24 (.tmp 1) rfl k1 rfl 24 (eA b) (0, 0) _ (fun w' h => (HSx.out w' h).1) Tryz.underlying24 rfl (infoE HOB.out)) s0 ?_
  (try simp only [Act.put, List.getElem_toArray, List.getElem_cons_succ, List.getElem_cons_zero, List.setIfInBounds_toArray, List.set_cons_zero, List.set_cons_succ])
  refine wpAnyH_take (i := 3) (v := .slice Au nl cap) rfl (by kernel_rfl) (by kernel_rfl) (by kernel_rfl) (fun _ _ _ h => h) (Or.inl ⟨by kernel_rfl, fun w' h => by first | (go_simp; done) | (go_simp; rfl)⟩) s0 ?_
  (try simp only [Act.put, List.getElem_toArray, List.getElem_cons_succ, List.getElem_cons_zero, List.setIfInBounds_toArray, List.set_cons_zero, List.set_cons_succ])
  refine wpAnyH_take (i := 4) (v := .agg (eA b)) rfl (by kernel_rfl) (by kernel_rfl) (by kernel_rfl) (fun _ _ _ h => h) (yields_row (by kernel_rfl) 24 (.tmp 1) rfl k1 rfl 24 (eA b) (0, 0) _ (fun w' h => (HSx.out w' h).1) Tryz.underlying24 rfl (infoE HOB.out)) s0 ?_
  (try simp only [Act.put, List.getElem_toArray, List.getElem_cons_succ, List.getElem_cons_zero, List.setIfInBounds_toArray, List.set_cons_zero, List.set_cons_succ])
  refine held_step (i := 2) (by kernel_rfl) rfl (by kernel_rfl) (fun K hK => ?_)
  go_wp2_with (go_at_call 8; refine (HOF0.out _ _ _ _ _ HM.out).mono ?_; rintro r y1 ⟨rfl, m, hmm, htk⟩; have s1 := HSi.out _ (ticks_blk htk (HSx.out _ s0).1 HNM.out) (ticks_blk htk (HSx.out _ s0).2 (mp_ne HM.out)); replace HOW := Aside0.mk (HOW.out.kept (ticks_grown htk) (.inr (own_block_ne HOW.out HM.out.tb.blk (by decide)))); replace HM := Aside0.mk (mp_ticks HM.out htk); replace HB := Aside0.mk (ticks_new HB.out htk HLT.out.2.1 (Nat.le_refl _)); clear htk hmm)
  refine hK.out _ _ s1 ?_
  clear hK K s0
  (try simp only [Act.put, List.getElem_toArray, List.getElem_cons_succ, List.getElem_cons_zero, List.setIfInBounds_toArray, List.set_cons_zero, List.set_cons_succ])
  refine held_step (i := 5) (by kernel_rfl) rfl (by kernel_rfl) (fun K hK => ?_)
  go_wp2_with (go_at_call 9; refine (HRF.out _ _ HOW.out).mono ?_; rintro r y2 ⟨rfl, hb⟩; have s2 := HSi.out _ (blk_below (HSx.out _ s1).1 hb) (blk_below (HSx.out _ s1).2 hb); replace HM := Aside0.mk (mp_below HM.out hb); replace HB := Aside0.mk (below_step HB.out hb); clear hb)
  refine hK.out _ _ s2 ?_
  clear hK K s1
  (try simp only [Act.put, List.getElem_toArray, List.getElem_cons_succ, List.getElem_cons_zero, List.setIfInBounds_toArray, List.set_cons_zero, List.set_cons_succ])
  refine wpAnyH_take (i := 6) (v := .bool true) rfl (by kernel_rfl) (by kernel_rfl) (by kernel_rfl) (fun _ _ _ h => h) (Or.inl ⟨by kernel_rfl, fun w' h => by first | (go_simp; done) | (go_simp; rfl)⟩) s2 ?_
  (try simp only [Act.put, List.getElem_toArray, List.getElem_cons_succ, List.getElem_cons_zero, List.setIfInBounds_toArray, List.set_cons_zero, List.set_cons_succ])
  refine wpAnyH_take (i := 7) (v := .bool true) rfl (by kernel_rfl) (by kernel_rfl) (by kernel_rfl) (fun _ _ _ h => h) (Or.inl ⟨by kernel_rfl, fun w' h => by first | (go_simp; done) | (go_simp; rfl)⟩) s2 ?_
  (try simp only [Act.put, List.getElem_toArray, List.getElem_cons_succ, List.getElem_cons_zero, List.setIfInBounds_toArray, List.set_cons_zero, List.set_cons_succ])
  refine wpAnyH_take (i := 8) (v := .pointer (some ⟨M, 0, none⟩)) rfl (by kernel_rfl) (by kernel_rfl) (by kernel_rfl) (fun _ _ _ h => h) (Or.inl ⟨by kernel_rfl, fun w' h => by first | (go_simp; done) | (go_simp; rfl)⟩) s2 ?_
  (try simp only [Act.put, List.getElem_toArray, List.getElem_cons_succ, List.getElem_cons_zero, List.setIfInBounds_toArray, List.set_cons_zero, List.set_cons_succ])
  refine wpAnyH_take (i := 9) (v := .pointer (some ⟨M, 0, none⟩)) rfl (by kernel_rfl) (by kernel_rfl) (by kernel_rfl) (fun _ _ _ h => h) (Or.inl ⟨by kernel_rfl, fun w' h => by first | (go_simp; done) | (go_simp; rfl)⟩) s2 ?_
  (try simp only [Act.put, List.getElem_toArray, List.getElem_cons_succ, List.getElem_cons_zero, List.setIfInBounds_toArray, List.set_cons_zero, List.set_cons_succ])
  refine wpAnyH_take (i := 10) (v := .pointer (some ⟨M, 0, none⟩)) rfl (by kernel_rfl) (by kernel_rfl) (by kernel_rfl) (fun _ _ _ h => h) (Or.inl ⟨by kernel_rfl, fun w' h => by first | (go_simp; done) | (go_simp; rfl)⟩) s2 ?_
  (try simp only [Act.put, List.getElem_toArray, List.getElem_cons_succ, List.getElem_cons_zero, List.setIfInBounds_toArray, List.set_cons_zero, List.set_cons_succ])
  refine wpAnyH_take (i := 11) (v := .pointer (some ⟨T, 0, none⟩)) rfl (by kernel_rfl) (by kernel_rfl) (by kernel_rfl) (fun _ _ _ h => h) (Or.inl ⟨by kernel_rfl, fun w' h => by have hf := blk_cell (HSx.out w' h).2 0; first | (go_simp; done) | (go_simp; rfl)⟩) s2 ?_
  (try simp only [Act.put, List.getElem_toArray, List.getElem_cons_succ, List.getElem_cons_zero, List.setIfInBounds_toArray, List.set_cons_zero, List.set_cons_succ])
  refine wpAnyH_take (i := 13) (v := .slice Au nl cap) rfl (by kernel_rfl) (by kernel_rfl) (by kernel_rfl) (fun _ _ _ h => h) (Or.inl ⟨by kernel_rfl, fun w' h => by first | (go_simp; done) | (go_simp; rfl)⟩) s2 ?_
  (try simp only [Act.put, List.getElem_toArray, List.getElem_cons_succ, List.getElem_cons_zero, List.setIfInBounds_toArray, List.set_cons_zero, List.set_cons_succ])
  refine wpAnyH_take (i := 14) (v := .int .i64 (nl : Int)) rfl (by kernel_rfl) (by kernel_rfl) (by kernel_rfl) (fun _ _ _ h => h) (Or.inl ⟨by kernel_rfl, fun w' h => by first | (go_simp; done) | (go_simp; rfl)⟩) s2 ?_
  (try simp only [Act.put, List.getElem_toArray, List.getElem_cons_succ, List.getElem_cons_zero, List.setIfInBounds_toArray, List.set_cons_zero, List.set_cons_succ])
  refine held_step (i := 12) (by kernel_rfl) rfl (by kernel_rfl) (fun K hK => ?_)
  go_wp2_with (go_at_call 10; refine (table_Len _ _ _ _ defL _ HM.out.tb).mono ?_; rintro r y3 ⟨rfl, hb⟩; rw [HNL.out]; have s3 := HSi.out _ (blk_below (HSx.out _ s2).1 hb) (blk_below (HSx.out _ s2).2 hb); replace HB := Aside0.mk (below_step HB.out hb); clear hb)
  refine hK.out _ _ s3 ?_
  clear hK K s2
  (try simp only [Act.put, List.getElem_toArray, List.getElem_cons_succ, List.getElem_cons_zero, List.setIfInBounds_toArray, List.set_cons_zero, List.set_cons_succ])
  refine wpAnyH_take (i := 15) (v := .bool true) rfl (by kernel_rfl) (by kernel_rfl) (by kernel_rfl) (fun _ _ _ h => h) (Or.inl ⟨by kernel_rfl, fun w' h => by first | (go_simp; done) | (go_simp; rfl)⟩) s3 ?_
  (try simp only [Act.put, List.getElem_toArray, List.getElem_cons_succ, List.getElem_cons_zero, List.setIfInBounds_toArray, List.set_cons_zero, List.set_cons_succ])
  refine wpAnyH_take (i := 16) (v := .bool true) rfl (by kernel_rfl) (by kernel_rfl) (by kernel_rfl) (fun _ _ _ h => h) (Or.inl ⟨by kernel_rfl, fun w' h => by first | (go_simp; done) | (go_simp; rfl)⟩) s3 ?_
  (try simp only [Act.put, List.getElem_toArray, List.getElem_cons_succ, List.getElem_cons_zero, List.setIfInBounds_toArray, List.set_cons_zero, List.set_cons_succ])
  refine wpAnyH_take (i := 17) (v := .bool true) rfl (by kernel_rfl) (by kernel_rfl) (by kernel_rfl) (fun _ _ _ h => h) (Or.inl ⟨by kernel_rfl, fun w' h => by first | (go_simp; done) | (go_simp; rfl)⟩) s3 ?_
  (try simp only [Act.put, List.getElem_toArray, List.getElem_cons_succ, List.getElem_cons_zero, List.setIfInBounds_toArray, List.set_cons_zero, List.set_cons_succ])
  refine held_step (i := 18) (by kernel_rfl) rfl (by kernel_rfl) (fun K hK => ?_)
  go_wp2_with (go_at_call 11; refine (w07_lives.calls true _ (maxis_below HMX.out HB.out) rfl).mono ?_; rintro r y4 ⟨rfl, hb⟩; have s4 := HSi.out _ (blk_below (HSx.out _ s3).1 hb) (blk_below (HSx.out _ s3).2 hb); replace HB := Aside0.mk (below_step HB.out hb); clear hb)
  refine hK.out _ _ s4 ?_
  clear hK K s3
  (try simp only [Act.put, List.getElem_toArray, List.getElem_cons_succ, List.getElem_cons_zero, List.setIfInBounds_toArray, List.set_cons_zero, List.set_cons_succ])
  refine wpAnyH_take (i := 19) (v := .bool true) rfl (by kernel_rfl) (by kernel_rfl) (by kernel_rfl) (fun _ _ _ h => h) (Or.inl ⟨by kernel_rfl, fun w' h => by first | (go_simp; done) | (go_simp; rfl)⟩) s4 ?_
  (try simp only [Act.put, List.getElem_toArray, List.getElem_cons_succ, List.getElem_cons_zero, List.setIfInBounds_toArray, List.set_cons_zero, List.set_cons_succ])
  refine wpAnyH_take (i := 20) (v := .bool true) rfl (by kernel_rfl) (by kernel_rfl) (by kernel_rfl) (fun _ _ _ h => h) (Or.inl ⟨by kernel_rfl, fun w' h => by first | (go_simp; done) | (go_simp; rfl)⟩) s4 ?_
  (try simp only [Act.put, List.getElem_toArray, List.getElem_cons_succ, List.getElem_cons_zero, List.setIfInBounds_toArray, List.set_cons_zero, List.set_cons_succ])
  refine wpAnyH_done (by kernel_rfl) ?_ _
  go_wp2
  go_ret
  exact ⟨rfl, HB.out⟩
end Go.Proofs.YtjilnigmbnmlfaaGreatDoor.P
