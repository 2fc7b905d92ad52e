/-
  The document's table of spaces, and an address's; law SpaceDefault.
-/
import Derived.Test.YthdognlkacjkhaaGreatDoorSpaX
namespace Go.Proofs.YthdognlkacjkhaaGreatDoor.P
open Go.RowKit Go.Proofs.YthdognlkacjkhaaGreatDoorW.PrintWords Go.Proofs.YthdognlkacjkhaaGreatDoorW.PrintLast Go.Proofs.YthdognlkacjkhaaGreatDoorW.PrintMore
set_option linter.unusedVariables false
set_option linter.unusedSimpArgs false
theorem fine_small {l : List En} {n : Nat} (h : Fine l n) : ∀ e ∈ l, e.p.n ≤ 1000000 := fun e he => by
  have h1 := h.may e he
  rw [mayP_iff] at h1
  have h2 := bitsOf_le e.p.a.fam
  have h3 : e.p.n ≤ bitsOf e.p.a.fam := h1.2.2.2.1
  omega
theorem ow_below {w w' : World} {u : Value} {l : List En} (h : Ow w u l) (hb : Below w.heap.size w w') : Ow w' u l := own_keep h fun g hg => hb.block g (h.lt g hg).2
theorem ref07_Of_false (u : Value) (l : List En) (a c : Ad) (ha : a.ok) (hc : c.ok) (hu : unmapA a = c) (x : En) (hx : x.p.a.ok)
    (hfd : ∀ w, Ow w u l → Calls Tryz.prog 16 #[u, .agg (eA c)] w fun r w' => r = .returned (.tuple #[.agg (eE x), .bool false]) ∧ Below w.heap.size w w') (w : World) (ho : Ow w u l) :
    Calls Tryz.prog 7 #[u, .agg (eA a)] w fun r w' => r = .returned (.int .i64 2) ∧ Below w.heap.size w w' := by
  have HB := Aside0.mk (Below.refl w.heap.size w)
  have HA := Aside0.mk ha
  have HC := Aside0.mk hc
  have HU := Aside0.mk hu
  have HX := Aside0.mk hx
  have HFD := Aside0.mk hfd
  have HOW := Aside0.mk ho
  clear ha hc hu hx hfd ho
  go_enter Tryz.func7, Tryz.ntmps7
  go_wp2_with (first
    | ((with_reducible refine gate_dst (N := 3) rfl ?_); refine box_event ?hg (N := 3) ?hd (cs := eA a) (t := 30) ?hr ?_; (case hd => rfl); (case hg => rfl); (case hr => first | (go_simp; done) | (go_simp; rfl)); intro k3 hg w2 hbox hb; have H3 := Aside0.mk hbox; replace HOW := Aside0.mk (ow_below HOW.out hb); replace HB := Aside0.mk (below_step HB.out hb); clear hb hg hbox)
    | ((with_reducible refine gate_dst (N := 9) rfl ?_); refine wpList_load_row rfl 30 (.tmp 3) rfl k3 rfl 30 (eA a) (0, 0) _ H3.out Tryz.underlying30 rfl (infoE HA.out) ?_)
    | (go_at_call 17; refine (ref04_Unmap a HA.out _).mono ?_; rintro r w3 ⟨rfl, hb⟩; rw [HU.out]; replace HOW := Aside0.mk (ow_below HOW.out hb); replace HB := Aside0.mk (below_step HB.out hb); clear hb)
    | (go_at_call 16; refine (HFD.out _ HOW.out).mono ?_; rintro r w4 ⟨rfl, hb⟩; replace HB := Aside0.mk (below_step HB.out hb); clear hb)
    | ((with_reducible refine gate_dst (N := 5) rfl ?_); refine box_event ?hg (N := 5) ?hd (cs := eE noE) (t := 52) ?hr ?_; (case hd => rfl); (case hg => rfl); (case hr => first | (go_simp; done) | (go_simp; rfl)); intro k5 hg w5 hbox hb; have H5 := Aside0.mk hbox; have HG5 := Aside0.mk (show w.heap.size ≤ k5 by rw [hg]; exact HB.out.size); replace HB := Aside0.mk (below_step HB.out hb); clear hb hg hbox)
    | ((with_reducible refine gate_store (t := 52) (p := 5) rfl ?_); refine wpList_store_row rfl 52 (.tmp 5) (.tmp 12) rfl k5 (eE x) rfl rfl 52 (eE noE) H5.out (infoEr6 HX.out) ((eE_size ok_noE).trans (eE_size HX.out).symm) (eE_one _) ?_; replace H5 := Aside0.mk (row_new (cells := eE x) H5.out); replace HB := Aside0.mk (below_row HB.out HG5.out (eE x)); generalize w5.setRow k5 (eE x) = w6 at HB H5 ⊢; have cv := val_cell HX.out H5.out))
  go_ret
  exact ⟨rfl, HB.out⟩
theorem ref07_Of_true (u : Value) (l : List En) (a c : Ad) (ha : a.ok) (hc : c.ok) (hu : unmapA a = c) (x : En) (hx : x.p.a.ok)
    (hfd : ∀ w, Ow w u l → Calls Tryz.prog 16 #[u, .agg (eA c)] w fun r w' => r = .returned (.tuple #[.agg (eE x), .bool true]) ∧ Below w.heap.size w w') (w : World) (ho : Ow w u l) :
    Calls Tryz.prog 7 #[u, .agg (eA a)] w fun r w' => r = .returned (.int .i64 x.v) ∧ Below w.heap.size w w' := by
  have HB := Aside0.mk (Below.refl w.heap.size w)
  have HA := Aside0.mk ha
  have HC := Aside0.mk hc
  have HU := Aside0.mk hu
  have HX := Aside0.mk hx
  have HFD := Aside0.mk hfd
  have HOW := Aside0.mk ho
  clear ha hc hu hx hfd ho
  go_enter Tryz.func7, Tryz.ntmps7
  go_wp2_with (first
    | ((with_reducible refine gate_dst (N := 3) rfl ?_); refine box_event ?hg (N := 3) ?hd (cs := eA a) (t := 30) ?hr ?_; (case hd => rfl); (case hg => rfl); (case hr => first | (go_simp; done) | (go_simp; rfl)); intro k3 hg w2 hbox hb; have H3 := Aside0.mk hbox; replace HOW := Aside0.mk (ow_below HOW.out hb); replace HB := Aside0.mk (below_step HB.out hb); clear hb hg hbox)
    | ((with_reducible refine gate_dst (N := 9) rfl ?_); refine wpList_load_row rfl 30 (.tmp 3) rfl k3 rfl 30 (eA a) (0, 0) _ H3.out Tryz.underlying30 rfl (infoE HA.out) ?_)
    | (go_at_call 17; refine (ref04_Unmap a HA.out _).mono ?_; rintro r w3 ⟨rfl, hb⟩; rw [HU.out]; replace HOW := Aside0.mk (ow_below HOW.out hb); replace HB := Aside0.mk (below_step HB.out hb); clear hb)
    | (go_at_call 16; refine (HFD.out _ HOW.out).mono ?_; rintro r w4 ⟨rfl, hb⟩; replace HB := Aside0.mk (below_step HB.out hb); clear hb)
    | ((with_reducible refine gate_dst (N := 5) rfl ?_); refine box_event ?hg (N := 5) ?hd (cs := eE noE) (t := 52) ?hr ?_; (case hd => rfl); (case hg => rfl); (case hr => first | (go_simp; done) | (go_simp; rfl)); intro k5 hg w5 hbox hb; have H5 := Aside0.mk hbox; have HG5 := Aside0.mk (show w.heap.size ≤ k5 by rw [hg]; exact HB.out.size); replace HB := Aside0.mk (below_step HB.out hb); clear hb hg hbox)
    | ((with_reducible refine gate_store (t := 52) (p := 5) rfl ?_); refine wpList_store_row rfl 52 (.tmp 5) (.tmp 12) rfl k5 (eE x) rfl rfl 52 (eE noE) H5.out (infoEr6 HX.out) ((eE_size ok_noE).trans (eE_size HX.out).symm) (eE_one _) ?_; replace H5 := Aside0.mk (row_new (cells := eE x) H5.out); replace HB := Aside0.mk (below_row HB.out HG5.out (eE x)); generalize w5.setRow k5 (eE x) = w6 at HB H5 ⊢; have cv := val_cell HX.out H5.out))
  go_ret
  exact ⟨rfl, HB.out⟩
theorem ref07_Of (u : Value) (l : List En) (n : Nat) (hf : Fine l n) (hn : l.length ≤ 1000) (a : Ad) (ha : a.ok) (hm : mayA a = true ∧ a.fam ≠ 0) (w : World) (ho : Ow w u l) :
    Calls Tryz.prog 7 #[u, .agg (eA a)] w fun r w' => r = .returned (.int .i64 (spOf l a)) ∧ Below w.heap.size w w' := by
  have hu := unmap_may ha hm
  have he := findQ_bestE hf.ok hf.sorted hf.may (ok_unmap ha) hu.1 hu.2
  have hfd := fun w ho => ref_Find u l hf.ok (fine_small hf) (unmapA a) (ok_unmap ha) w ho hn
  rw [← he] at hfd
  unfold spOf
  cases hq : findQ l (unmapA a) with
  | none =>
    rw [hq] at hfd
    exact ref07_Of_false u l a _ ha (ok_unmap ha) rfl noE ok_noE hfd w ho
  | some x =>
    rw [hq] at hfd
    have hx := ok_findQ hf.ok (unmapA a)
    rw [hq] at hx
    exact ref07_Of_true u l a _ ha (ok_unmap ha) rfl x hx hfd w ho
/-! ### the document's first table -/
def dfR : List (ByteArray × Pf) := dfs0 ++ dfs1
def dl : Nat → List En
  | 0 => []
  | i + 1 => match dfR[i]? with
    | some x => setE (dl i) x.2 (if 4 ≤ i then 1 else 0)
    | none => dl i
theorem dl_at {i : Nat} {x : ByteArray × Pf} (h : dfR[i]? = some x) : dl (i + 1) = setE (dl i) x.2 (if 4 ≤ i then 1 else 0) := by rw [dl, h]
theorem fine_dl : ∀ i, i ≤ 11 → Fine (dl i) i
  | 0, _ => fine_nil
  | i + 1, h => by
    obtain ⟨x, hx⟩ : ∃ x, dfR[i]? = some x := ⟨dfR[i]'(by show i < 11; omega), List.getElem?_eq_getElem _⟩
    have hp := dfs_okR i x hx
    rw [dl_at hx]
    exact fine_setE (fine_dl i (by omega)) hp.ok hp.may _
theorem ow_nil (w : World) : Ow w (.slice none 0 0) [] := World.ownsRow_nil w 0 52 19
theorem ow_row {w : World} {u : Value} {l : List En} {g : Nat} {cells : Array Value} {t : TypeId} {cs : Array Value} (h : Ow w u l) (hg : w.heap[g]? = some (.cells cs t (0, 0))) (ht : t ≠ 52) : Ow (w.setRow g cells) u l :=
  own_keep h fun k hk => row_far (fun e => by subst e; exact own_block_ne h hg ht hk)
theorem ref_SetY (u : Value) (l : List En) (hl : okE l) (hs : Sorted l) (p : Pf) (hp : p.a.ok) (v : Int) (hm : mayQ p = true) (l2 : List En) (hl2 : l2 = setE l p v) (w : World) (hr : Ow w u l) (hn : l.length ≤ 1000) :
    Calls Tryz.prog 23 #[u, .agg (eP p), .int .i64 v] w fun r w' => ∃ u', r = .returned (.tuple #[u', .int .i64 0]) ∧ Ow w' u' l2 ∧ Below w.heap.size w w' := by
  subst hl2
  have := ref_Set u l hl hs p hp v w hr hn
  rw [if_pos hm, if_pos hm] at this
  exact this
set_option maxHeartbeats 8000000 in
set_option maxRecDepth 100000 in
theorem ref07_Default (w : World) (hmx : MaxIs w) : Calls Tryz.prog 10 #[] w fun r w' => ∃ u, r = .returned u ∧ Ow w' u defL ∧ Below w.heap.size w w' := by
  have HB := Aside0.mk (Below.refl w.heap.size w)
  have HMX := Aside0.mk hmx
  clear hmx
  go_enter Tryz.func10, Tryz.ntmps10
  go_wp2
  obtain ⟨gA, hgA⟩ : ∃ g, w.heap.size = g := ⟨_, rfl⟩
  obtain ⟨w2, hw2⟩ : ∃ w2, w.alloc (.cells (strsOf dfR) 9) = w2 := ⟨_, rfl⟩
  have hb12 : Below w.heap.size w w2 := by rw [← hw2]; exact (Below.refl _ w).alloc (Nat.le_refl _) _
  have HR := Aside0.mk (show w2.heap[gA]? = some (.cells (strsOf dfR) 9 (0, 0)) by
    rw [← hw2, ← hgA]
    exact World.alloc_heap_new w _)
  replace HB := Aside0.mk (below_step HB.out hb12)
  have HG := Aside0.mk (show w.heap.size ≤ gA by rw [hgA]; exact Nat.le_refl _)
  change Code.wp _ _ _ _ (w.alloc (.cells (strsOf dfR) 9))
  rw [hw2]
  simp only [hgA]
  clear hw2 hb12 hgA
  go_loopw [2, 3] (fun v2 v3 wr => ∃ (i : Nat) (u : Value), v2 = u ∧ v3 = .int .i64 (i : Int) ∧ Aside0 (i ≤ 11) ∧ Aside0 (Ow wr u (dl i)) ∧ Aside0 (wr.heap[gA]? = some (.cells (strsOf dfR) 9 (0, 0))) ∧ Aside0 (Below w.heap.size w wr)) (fun _ v3 _ => 11 - (intOf v3).toNat)
  case atStart => exact ⟨0, _, rfl, rfl, ⟨Nat.zero_le _⟩, ⟨ow_nil _⟩, HR, HB⟩
  case round =>
    clear HR HB
    obtain ⟨i, u, rfl, rfl, HI, HOW, HR, HB⟩ := hrel
    by_cases hi : i < 11
    · have e0 : decide ((i : Int) < 11) = true := decide_eq_true (by omega)
      have e0n : decide (i < 11) = true := decide_eq_true hi
      have e1 : (0 : Int) ≤ (i : Int) := Int.natCast_nonneg _
      have e2 : (i : Int) < 11 := by omega
      obtain ⟨x, hx⟩ : ∃ x, dfR[i]? = some x := ⟨dfR[i]'hi, List.getElem?_eq_getElem hi⟩
      have HPF := Aside0.mk (dfs_okR i x hx)
      have cp := strs_cell HR.out hx
      have HFI := Aside0.mk (fine_dl i (by omega))
      have HLI := Aside0.mk (show (dl i).length ≤ 1000 by have := HFI.out.len; omega)
      have E1 := Aside0.mk (wrap_up6 i (by omega))
      have HSN := Aside0.mk (dl_at hx)
      clear hx
      by_cases h4 : 4 ≤ i
      · have f0 : decide ((4 : Int) ≤ (i : Int)) = true := decide_eq_true (by omega)
        have f0n : decide (4 ≤ i) = true := decide_eq_true h4
        rw [if_pos h4] at HSN
        clear h4
        go_wp2_with (first
          | (go_at_call 22; refine (HPF.out.run _ (maxis_below HMX.out HB.out)).mono ?_; rintro r y1 ⟨rfl, hb⟩; replace HOW := Aside0.mk (ow_below HOW.out hb); replace HR := Aside0.mk (blk_below HR.out hb); replace HB := Aside0.mk (below_step HB.out hb); clear hb cp)
          | ((with_reducible refine gate_dst (N := 4) rfl ?_); refine box_event ?hg (N := 4) ?hd (cs := eP noP) (t := 42) ?hr ?_; (case hd => rfl); (case hg => rfl); (case hr => first | (go_simp; done) | (go_simp; rfl)); intro k4 hg y2 hbox hb; have H4 := Aside0.mk hbox; have HG4 := Aside0.mk (show w.heap.size ≤ k4 by rw [hg]; exact HB.out.size); have HNA := Aside0.mk (show gA ≠ k4 by have h1 := (Array.getElem?_eq_some_iff.1 HR.out).1; omega); replace HOW := Aside0.mk (ow_below HOW.out hb); replace HR := Aside0.mk (blk_below HR.out hb); replace HB := Aside0.mk (below_step HB.out hb); clear hb hg hbox)
          | ((with_reducible refine gate_store (t := 42) (p := 4) rfl ?_); refine wpList_store_row rfl 42 (.tmp 4) (.tmp 22) rfl k4 (eP x.2) rfl rfl 42 (eP noP) H4.out (infoEP HPF.out.ok) ((show (eP noP).size = 18 from rfl).trans (eP_size HPF.out.ok).symm) (eP_one _) ?_; replace HOW := Aside0.mk (ow_row (cells := eP x.2) HOW.out H4.out (by decide)); replace H4 := Aside0.mk (row_new (cells := eP x.2) H4.out); replace HR := Aside0.mk ((row_far (cells := eP x.2) HNA.out).trans HR.out); replace HB := Aside0.mk (below_row HB.out HG4.out (eP x.2)); generalize y2.setRow k4 (eP x.2) = y3 at H4 HOW HR HB ⊢)
          | ((with_reducible refine gate_dst (N := 28) rfl ?_); refine wpList_load_row rfl 42 (.tmp 4) rfl k4 rfl 42 (eP x.2) (0, 0) _ H4.out Tryz.underlying42 rfl (infoEP HPF.out.ok) ?_)
          | (go_at_call 23; refine (ref_SetY _ (dl i) HFI.out.ok HFI.out.sorted x.2 HPF.out.ok 1 HPF.out.may (dl (i + 1)) HSN.out _ HOW.out HLI.out).mono ?_; rintro r y4 ⟨u', rfl, ho, hb⟩; have HO2 := Aside0.mk ho; replace HR := Aside0.mk (blk_below HR.out hb); replace HB := Aside0.mk (below_step HB.out hb); clear hb ho))
        go_roundw
        case rel => exact ⟨i + 1, _, rfl, by first | rfl | exact congrArg (Value.int .i64) E1.out | exact congrArg (Value.int .i64) (by omega), ⟨by omega⟩, HO2, HR, HB⟩
        case measure => exact measure_up 11 i _ (by first | rfl | exact E1.out | omega) (by omega)
      · have f0 : decide ((4 : Int) ≤ (i : Int)) = false := decide_eq_false (by omega)
        have f0n : decide (4 ≤ i) = false := decide_eq_false h4
        rw [if_neg h4] at HSN
        clear h4
        go_wp2_with (first
          | (go_at_call 22; refine (HPF.out.run _ (maxis_below HMX.out HB.out)).mono ?_; rintro r y1 ⟨rfl, hb⟩; replace HOW := Aside0.mk (ow_below HOW.out hb); replace HR := Aside0.mk (blk_below HR.out hb); replace HB := Aside0.mk (below_step HB.out hb); clear hb cp)
          | ((with_reducible refine gate_dst (N := 4) rfl ?_); refine box_event ?hg (N := 4) ?hd (cs := eP noP) (t := 42) ?hr ?_; (case hd => rfl); (case hg => rfl); (case hr => first | (go_simp; done) | (go_simp; rfl)); intro k4 hg y2 hbox hb; have H4 := Aside0.mk hbox; have HG4 := Aside0.mk (show w.heap.size ≤ k4 by rw [hg]; exact HB.out.size); have HNA := Aside0.mk (show gA ≠ k4 by have h1 := (Array.getElem?_eq_some_iff.1 HR.out).1; omega); replace HOW := Aside0.mk (ow_below HOW.out hb); replace HR := Aside0.mk (blk_below HR.out hb); replace HB := Aside0.mk (below_step HB.out hb); clear hb hg hbox)
          | ((with_reducible refine gate_store (t := 42) (p := 4) rfl ?_); refine wpList_store_row rfl 42 (.tmp 4) (.tmp 22) rfl k4 (eP x.2) rfl rfl 42 (eP noP) H4.out (infoEP HPF.out.ok) ((show (eP noP).size = 18 from rfl).trans (eP_size HPF.out.ok).symm) (eP_one _) ?_; replace HOW := Aside0.mk (ow_row (cells := eP x.2) HOW.out H4.out (by decide)); replace H4 := Aside0.mk (row_new (cells := eP x.2) H4.out); replace HR := Aside0.mk ((row_far (cells := eP x.2) HNA.out).trans HR.out); replace HB := Aside0.mk (below_row HB.out HG4.out (eP x.2)); generalize y2.setRow k4 (eP x.2) = y3 at H4 HOW HR HB ⊢)
          | ((with_reducible refine gate_dst (N := 28) rfl ?_); refine wpList_load_row rfl 42 (.tmp 4) rfl k4 rfl 42 (eP x.2) (0, 0) _ H4.out Tryz.underlying42 rfl (infoEP HPF.out.ok) ?_)
          | (go_at_call 23; refine (ref_SetY _ (dl i) HFI.out.ok HFI.out.sorted x.2 HPF.out.ok 0 HPF.out.may (dl (i + 1)) HSN.out _ HOW.out HLI.out).mono ?_; rintro r y4 ⟨u', rfl, ho, hb⟩; have HO2 := Aside0.mk ho; replace HR := Aside0.mk (blk_below HR.out hb); replace HB := Aside0.mk (below_step HB.out hb); clear hb ho))
        go_roundw
        case rel => exact ⟨i + 1, _, rfl, by first | rfl | exact congrArg (Value.int .i64) E1.out | exact congrArg (Value.int .i64) (by omega), ⟨by omega⟩, HO2, HR, HB⟩
        case measure => exact measure_up 11 i _ (by first | rfl | exact E1.out | omega) (by omega)
    · have hin : i = 11 := by have := HI.out; omega
      subst hin
      replace HOW := Aside0.mk (show Ow wr _ defL from HOW.out)
      go_wp2
      go_ret
      exact ⟨_, rfl, HOW.out, HB.out⟩
end Go.Proofs.YthdognlkacjkhaaGreatDoor.P
