/-
  A deed, of the program and of the document (the walk).
-/
import Derived.Test.YthjhbhgfckaklaaTabL
namespace Go.Proofs.Ythjhbhgfckaklaa.P
open Go.RowKit Go.Proofs.YthjhbhgfckaklaaW.PrintWords Go.Proofs.YthjhbhgfckaklaaW.PrintLast Go.Proofs.YthjhbhgfckaklaaW.PrintMore
set_option linter.unusedVariables false
set_option linter.unusedSimpArgs false
theorem set_two (T base : Nat) (st : Int) (sv : Value) (l : List En) (p : Pf) (hp : p.a.ok) (v er : Int) (l2 : List En) (her : er = if mayQ p = true then 0 else 1) (hl2 : l2 = if mayQ p = true then setE l p v else l) (w : World) (ht : Tb w T base st sv l) (hs : Sorted l) (hn : l.length ≤ 1000) (hb0 : base ≤ w.heap.size) :
    Calls Try.prog 21 #[.pointer (some ⟨T, 0, none⟩), .agg (eP p), .int .i64 v] w fun r w' => r = .returned (.int .i64 er) ∧ Aside0 (∃ sv', Tb w' T base st sv' l2) ∧ Aside0 (Chg T base w w') := by
  rw [her, hl2]
  exact (table_Set T base st sv l p hp v w ht hs hn hb0).mono fun r w' ⟨h1, h2, h3⟩ => ⟨h1, ⟨h2⟩, ⟨h3⟩⟩
theorem set_one (u : Value) (l : List En) (hl : okE l) (hs : Sorted l) (p : Pf) (hp : p.a.ok) (v er : Int) (l2 : List En) (her : er = if mayQ p = true then 0 else 1) (hl2 : l2 = if mayQ p = true then setE l p v else l) (w : World) (hr : Ow w u l) (hn : l.length ≤ 1000) :
    Calls Try.prog 25 #[u, .agg (eP p), .int .i64 v] w fun r w' => ∃ u', r = .returned (.tuple #[u', .int .i64 er]) ∧ Aside0 (Ow w' u' l2) ∧ Below w.heap.size w w' := by
  rw [her, hl2]
  exact (ref_Set u l hl hs p hp v w hr hn).mono fun r w' ⟨u', h1, h2, h3⟩ => ⟨u', h1, ⟨h2⟩, h3⟩
theorem drop_two (T base : Nat) (st : Int) (sv : Value) (l : List En) (p : Pf) (hp : p.a.ok) (b : Bool) (l2 : List En) (hb : b = hasE l p) (hl2 : l2 = dropE l p) (w : World) (ht : Tb w T base st sv l) (hs : Sorted l) (hn : l.length ≤ 1000) :
    Calls Try.prog 57 #[.pointer (some ⟨T, 0, none⟩), .agg (eP p)] w fun r w' => r = .returned (.int .i64 (if b = true then 0 else 4)) ∧ Aside0 (∃ sv', Tb w' T base st sv' l2) ∧ Aside0 (Chg T base w w') := by
  rw [hb, hl2]
  exact (table_Drop T base st sv l p hp w ht hs hn).mono fun r w' ⟨h1, h2, h3⟩ => ⟨h1, ⟨h2⟩, ⟨h3⟩⟩
theorem drop_one (u : Value) (l : List En) (hl : okE l) (p : Pf) (hp : p.a.ok) (b : Bool) (l2 : List En) (hb : b = hasE l p) (hl2 : l2 = dropE l p) (w : World) (hr : Ow w u l) (hn : l.length ≤ 1000) :
    Calls Try.prog 53 #[u, .agg (eP p)] w fun r w' => ∃ u', r = .returned (.tuple #[u', .bool b]) ∧ Aside0 (Ow w' u' l2) ∧ Below w.heap.size w w' := by
  rw [hb, hl2]
  exact (ref_Drop u l hl p hp w hr hn).mono fun r w' ⟨u', h1, h2, h3⟩ => ⟨u', h1, ⟨h2⟩, h3⟩
set_option maxHeartbeats 4000000 in
set_option maxRecDepth 100000 in
theorem does_0 (T base : Nat) (st : Int) (sv : Value) (u : Value) (l l2 : List En) (d : De) (q : Pf) (hq : q = pfD d) (hd : d.p.a.ok) (w : World) (ht : Tb w T base st sv l) (ho : Ow w u l) (hs : Sorted l) (hn : l.length ≤ 1000) (hb0 : base ≤ w.heap.size) (hl2 : l2 = (if mayQ q = true then setE l q d.v else l)) (hk : d.kind = 0) :
    Calls Try.prog 32 #[.pointer (some ⟨T, 0, none⟩), u, .agg (eD d)] w fun r w' => ∃ u', r = .returned (.tuple #[u', .bool true]) ∧ (∃ sv', Tb w' T base st sv' l2) ∧ Ow w' u' l2 ∧ Chg T base w w' := by
  have HB := Aside0.mk (Below.refl w.heap.size w)
  have HD := Aside0.mk hd
  have HQ := Aside0.mk hq
  have HQO := Aside0.mk (show q.a.ok by rw [hq]; exact ok_pfD hd)
  have HT := Aside0.mk ht
  have HOW := Aside0.mk ho
  have HS := Aside0.mk hs
  have HN := Aside0.mk hn
  have HOK := Aside0.mk ht.ok
  have HB0 := Aside0.mk hb0
  have HL2 := Aside0.mk hl2
  have k0 : (d.kind == 0) = true := beq_iff_eq.2 hk
  obtain ⟨er, her⟩ : ∃ er : Int, er = if mayQ q = true then 0 else 1 := ⟨_, rfl⟩
  have HER := Aside0.mk her
  clear hd hq ht ho hs hn hb0 hl2 hk her
  cases hraw : d.raw with
  | true =>
    have HRAW := Aside0.mk hraw
    have HQE := Aside0.mk (show d.p = q by rw [HQ.out]; unfold pfD; rw [hraw]; rfl)
    clear hraw
    go_enter Try.func32, Try.ntmps32
    go_wp2_with (first
      | ((with_reducible refine gate_dst (N := 5) rfl ?_); refine box_event ?hg (N := 5) ?hd (cs := eD d) (t := 53) ?hr ?_; (case hd => rfl); (case hg => rfl); (case hr => first | (go_simp; done) | (go_simp; rfl)); intro g5 hg w1 hbox hb; replace HB := Aside0.mk (below_step HB.out hb); have c0 := dd0 hbox; have c19 := ddV HD.out hbox; have c20 := ddR HD.out hbox; rw [HRAW.out] at c20; have HRP := Aside0.mk (ddP hbox); have H5 := Aside0.mk hbox; clear hb hg hbox)
      | ((with_reducible refine gate_dst (N := 19) rfl ?_); refine wpList_load_mid rfl 39 (.tmp 18) rfl g5 1 rfl (lP d.p) _ HRP.out Try.underlying39 rfl (infoPf_len HD.out) ?_)
      | ((with_reducible refine gate_dst (N := 8) rfl ?_); refine box_event ?hg (N := 8) ?hd (cs := eP noP) (t := 39) ?hr ?_; (case hd => rfl); (case hg => rfl); (case hr => first | (go_simp; done) | (go_simp; rfl)); intro g8 hg w2 hbox hb; have HX := Aside0.mk hbox; have HG8 := Aside0.mk (show w.heap.size ≤ g8 by rw [hg]; exact HB.out.size); have HN58 := Aside0.mk (show g5 ≠ g8 by have := (Array.getElem?_eq_some_iff.1 H5.out).1; omega); replace HB := Aside0.mk (below_step HB.out hb); replace H5 := Aside0.mk (blk_below H5.out hb); clear hb hg hbox HRP)
      | ((with_reducible refine gate_store (t := 39) (p := 8) rfl ?_); refine wpList_store_row rfl 39 (.tmp 8) (.tmp 19) rfl g8 (eP d.p) rfl rfl 39 (eP noP) HX.out (infoEP HD.out) ((show (eP noP).size = 18 from rfl).trans (eP_size HD.out).symm) (eP_one _) ?_; replace HX := Aside0.mk (row_new (cells := eP d.p) HX.out); replace HB := Aside0.mk (below_row HB.out HG8.out (eP d.p)); replace H5 := Aside0.mk ((row_far (cells := eP d.p) HN58.out).trans H5.out); generalize w2.setRow g8 (eP d.p) = w3 at HX HB H5 ⊢; replace c0 := dd0 H5.out; replace c19 := ddV HD.out H5.out; replace c20 := ddR HD.out H5.out; rw [HRAW.out] at c20; rw [HQE.out] at HX)
      | ((with_reducible refine gate_dst (N := 31) rfl ?_); refine wpList_load_row rfl 39 (.tmp 8) rfl g8 rfl 39 (eP q) (0, 0) _ HX.out Try.underlying39 rfl (infoEP HQO.out) ?_)
      | (go_at_call 25; refine (set_one u l HOK.out HS.out q HQO.out d.v er l2 HER.out HL2.out _ (own_below HOW.out HB.out) HN.out).mono ?_; rintro r w6 ⟨u2, rfl, HO2, hb⟩; replace HX := Aside0.mk (blk_below HX.out hb); replace H5 := Aside0.mk (blk_below H5.out hb); replace HB := Aside0.mk (below_step HB.out hb); replace c0 := dd0 H5.out; replace c19 := ddV HD.out H5.out; clear hb)
      | ((with_reducible refine gate_dst (N := 39) rfl ?_); refine wpList_load_row rfl 39 (.tmp 8) rfl g8 rfl 39 (eP q) (0, 0) _ HX.out Try.underlying39 rfl (infoEP HQO.out) ?_)
      | (go_at_call 21; refine (set_two T base st sv l q HQO.out d.v er l2 HER.out HL2.out _ (tb_below HT.out HB.out) HS.out HN.out (Nat.le_trans HB0.out HB.out.size)).mono ?_; rintro r w7 ⟨rfl, HT2, HCH⟩; clear c0 c19))
    go_ret2
    exact ⟨_, rfl, HT2.out, ow_chg HO2.out (tb_below HT.out HB.out).blk HCH.out, chg_trans (chg_below HB.out) HCH.out⟩
  | false =>
    have HRAW := Aside0.mk hraw
    have HGO := Aside0.mk (show ∀ w, Calls Try.prog 24 #[.agg (eP d.p)] w fun e w' => e = .returned (.agg (eP q)) ∧ Below w.heap.size w w' by
      have e : q = goodP d.p := by rw [HQ.out]; unfold pfD; rw [hraw]; rfl
      rw [e]
      exact fun w => ref05_Good d.p HD.out w)
    clear hraw
    go_enter Try.func32, Try.ntmps32
    go_wp2_with (first
      | ((with_reducible refine gate_dst (N := 5) rfl ?_); refine box_event ?hg (N := 5) ?hd (cs := eD d) (t := 53) ?hr ?_; (case hd => rfl); (case hg => rfl); (case hr => first | (go_simp; done) | (go_simp; rfl)); intro g5 hg w1 hbox hb; replace HB := Aside0.mk (below_step HB.out hb); have c0 := dd0 hbox; have c19 := ddV HD.out hbox; have c20 := ddR HD.out hbox; rw [HRAW.out] at c20; have HRP := Aside0.mk (ddP hbox); have H5 := Aside0.mk hbox; clear hb hg hbox)
      | ((with_reducible refine gate_dst (N := 19) rfl ?_); refine wpList_load_mid rfl 39 (.tmp 18) rfl g5 1 rfl (lP d.p) _ HRP.out Try.underlying39 rfl (infoPf_len HD.out) ?_)
      | ((with_reducible refine gate_dst (N := 8) rfl ?_); refine box_event ?hg (N := 8) ?hd (cs := eP noP) (t := 39) ?hr ?_; (case hd => rfl); (case hg => rfl); (case hr => first | (go_simp; done) | (go_simp; rfl)); intro g8 hg w2 hbox hb; have HX := Aside0.mk hbox; have HG8 := Aside0.mk (show w.heap.size ≤ g8 by rw [hg]; exact HB.out.size); have HN58 := Aside0.mk (show g5 ≠ g8 by have := (Array.getElem?_eq_some_iff.1 H5.out).1; omega); replace HB := Aside0.mk (below_step HB.out hb); replace H5 := Aside0.mk (blk_below H5.out hb); clear hb hg hbox HRP)
      | ((with_reducible refine gate_store (t := 39) (p := 8) rfl ?_); refine wpList_store_row rfl 39 (.tmp 8) (.tmp 19) rfl g8 (eP d.p) rfl rfl 39 (eP noP) HX.out (infoEP HD.out) ((show (eP noP).size = 18 from rfl).trans (eP_size HD.out).symm) (eP_one _) ?_; replace HX := Aside0.mk (row_new (cells := eP d.p) HX.out); replace HB := Aside0.mk (below_row HB.out HG8.out (eP d.p)); replace H5 := Aside0.mk ((row_far (cells := eP d.p) HN58.out).trans H5.out); generalize w2.setRow g8 (eP d.p) = w3 at HX HB H5 ⊢; replace c0 := dd0 H5.out; replace c19 := ddV HD.out H5.out; replace c20 := ddR HD.out H5.out; rw [HRAW.out] at c20)
      | ((with_reducible refine gate_dst (N := 23) rfl ?_); refine wpList_load_row rfl 39 (.tmp 8) rfl g8 rfl 39 (eP d.p) (0, 0) _ HX.out Try.underlying39 rfl (infoEP HD.out) ?_)
      | (go_at_call 24; refine (HGO.out _).mono ?_; rintro r w4 ⟨rfl, hb⟩; replace HX := Aside0.mk (blk_below HX.out hb); replace H5 := Aside0.mk (blk_below H5.out hb); replace HB := Aside0.mk (below_step HB.out hb); clear hb)
      | ((with_reducible refine gate_store (t := 39) (p := 8) rfl ?_); refine wpList_store_row rfl 39 (.tmp 8) (.tmp 24) rfl g8 (eP q) rfl rfl 39 (eP d.p) HX.out (infoEP HQO.out) ((eP_size HD.out).trans (eP_size HQO.out).symm) (eP_one _) ?_; replace HX := Aside0.mk (row_new (cells := eP q) HX.out); replace HB := Aside0.mk (below_row HB.out HG8.out (eP q)); replace H5 := Aside0.mk ((row_far (cells := eP q) HN58.out).trans H5.out); generalize w4.setRow g8 (eP q) = w5 at HX HB H5 ⊢; replace c0 := dd0 H5.out; replace c19 := ddV HD.out H5.out)
      | ((with_reducible refine gate_dst (N := 31) rfl ?_); refine wpList_load_row rfl 39 (.tmp 8) rfl g8 rfl 39 (eP q) (0, 0) _ HX.out Try.underlying39 rfl (infoEP HQO.out) ?_)
      | (go_at_call 25; refine (set_one u l HOK.out HS.out q HQO.out d.v er l2 HER.out HL2.out _ (own_below HOW.out HB.out) HN.out).mono ?_; rintro r w6 ⟨u2, rfl, HO2, hb⟩; replace HX := Aside0.mk (blk_below HX.out hb); replace H5 := Aside0.mk (blk_below H5.out hb); replace HB := Aside0.mk (below_step HB.out hb); replace c0 := dd0 H5.out; replace c19 := ddV HD.out H5.out; clear hb)
      | ((with_reducible refine gate_dst (N := 39) rfl ?_); refine wpList_load_row rfl 39 (.tmp 8) rfl g8 rfl 39 (eP q) (0, 0) _ HX.out Try.underlying39 rfl (infoEP HQO.out) ?_)
      | (go_at_call 21; refine (set_two T base st sv l q HQO.out d.v er l2 HER.out HL2.out _ (tb_below HT.out HB.out) HS.out HN.out (Nat.le_trans HB0.out HB.out.size)).mono ?_; rintro r w7 ⟨rfl, HT2, HCH⟩; clear c0 c19))
    go_ret2
    exact ⟨_, rfl, HT2.out, ow_chg HO2.out (tb_below HT.out HB.out).blk HCH.out, chg_trans (chg_below HB.out) HCH.out⟩
set_option maxHeartbeats 4000000 in
set_option maxRecDepth 100000 in
theorem does_1 (T base : Nat) (st : Int) (sv : Value) (u : Value) (l l2 : List En) (d : De) (q : Pf) (hq : q = pfD d) (hd : d.p.a.ok) (w : World) (ht : Tb w T base st sv l) (ho : Ow w u l) (hs : Sorted l) (hn : l.length ≤ 1000) (hb0 : base ≤ w.heap.size) (hl2 : l2 = (dropE l q)) (hk : ¬ d.kind = 0) (hk1 : d.kind = 1) :
    Calls Try.prog 32 #[.pointer (some ⟨T, 0, none⟩), u, .agg (eD d)] w fun r w' => ∃ u', r = .returned (.tuple #[u', .bool true]) ∧ (∃ sv', Tb w' T base st sv' l2) ∧ Ow w' u' l2 ∧ Chg T base w w' := by
  have HB := Aside0.mk (Below.refl w.heap.size w)
  have HD := Aside0.mk hd
  have HQ := Aside0.mk hq
  have HQO := Aside0.mk (show q.a.ok by rw [hq]; exact ok_pfD hd)
  have HT := Aside0.mk ht
  have HOW := Aside0.mk ho
  have HS := Aside0.mk hs
  have HN := Aside0.mk hn
  have HOK := Aside0.mk ht.ok
  have HB0 := Aside0.mk hb0
  have HL2 := Aside0.mk hl2
  have k0 : (d.kind == 0) = false := beq_eq_false_iff_ne.2 hk
  have k1 : (d.kind == 1) = true := beq_iff_eq.2 hk1
  obtain ⟨b, hb⟩ : ∃ b : Bool, b = hasE l q := ⟨_, rfl⟩
  have HBB := Aside0.mk hb
  clear hd hq ht ho hs hn hb0 hl2 hk hk1 hb
  cases hraw : d.raw with
  | true =>
    have HRAW := Aside0.mk hraw
    have HQE := Aside0.mk (show d.p = q by rw [HQ.out]; unfold pfD; rw [hraw]; rfl)
    clear hraw
    cases b with
    | true =>
      go_enter Try.func32, Try.ntmps32
      go_wp2_with (first
        | ((with_reducible refine gate_dst (N := 5) rfl ?_); refine box_event ?hg (N := 5) ?hd (cs := eD d) (t := 53) ?hr ?_; (case hd => rfl); (case hg => rfl); (case hr => first | (go_simp; done) | (go_simp; rfl)); intro g5 hg w1 hbox hb; replace HB := Aside0.mk (below_step HB.out hb); have c0 := dd0 hbox; have c19 := ddV HD.out hbox; have c20 := ddR HD.out hbox; rw [HRAW.out] at c20; have HRP := Aside0.mk (ddP hbox); have H5 := Aside0.mk hbox; clear hb hg hbox)
        | ((with_reducible refine gate_dst (N := 19) rfl ?_); refine wpList_load_mid rfl 39 (.tmp 18) rfl g5 1 rfl (lP d.p) _ HRP.out Try.underlying39 rfl (infoPf_len HD.out) ?_)
        | ((with_reducible refine gate_dst (N := 8) rfl ?_); refine box_event ?hg (N := 8) ?hd (cs := eP noP) (t := 39) ?hr ?_; (case hd => rfl); (case hg => rfl); (case hr => first | (go_simp; done) | (go_simp; rfl)); intro g8 hg w2 hbox hb; have HX := Aside0.mk hbox; have HG8 := Aside0.mk (show w.heap.size ≤ g8 by rw [hg]; exact HB.out.size); have HN58 := Aside0.mk (show g5 ≠ g8 by have := (Array.getElem?_eq_some_iff.1 H5.out).1; omega); replace HB := Aside0.mk (below_step HB.out hb); replace H5 := Aside0.mk (blk_below H5.out hb); clear hb hg hbox HRP)
        | ((with_reducible refine gate_store (t := 39) (p := 8) rfl ?_); refine wpList_store_row rfl 39 (.tmp 8) (.tmp 19) rfl g8 (eP d.p) rfl rfl 39 (eP noP) HX.out (infoEP HD.out) ((show (eP noP).size = 18 from rfl).trans (eP_size HD.out).symm) (eP_one _) ?_; replace HX := Aside0.mk (row_new (cells := eP d.p) HX.out); replace HB := Aside0.mk (below_row HB.out HG8.out (eP d.p)); replace H5 := Aside0.mk ((row_far (cells := eP d.p) HN58.out).trans H5.out); generalize w2.setRow g8 (eP d.p) = w3 at HX HB H5 ⊢; replace c0 := dd0 H5.out; replace c19 := ddV HD.out H5.out; replace c20 := ddR HD.out H5.out; rw [HRAW.out] at c20; rw [HQE.out] at HX)
        | ((with_reducible refine gate_dst (N := 49) rfl ?_); refine wpList_load_row rfl 39 (.tmp 8) rfl g8 rfl 39 (eP q) (0, 0) _ HX.out Try.underlying39 rfl (infoEP HQO.out) ?_)
        | (go_at_call 53; refine (drop_one u l HOK.out q HQO.out _ l2 HBB.out HL2.out _ (own_below HOW.out HB.out) HN.out).mono ?_; rintro r w6 ⟨u2, rfl, HO2, hb⟩; replace HX := Aside0.mk (blk_below HX.out hb); replace H5 := Aside0.mk (blk_below H5.out hb); replace HB := Aside0.mk (below_step HB.out hb); replace c0 := dd0 H5.out; replace c19 := ddV HD.out H5.out; clear hb)
        | ((with_reducible refine gate_dst (N := 56) rfl ?_); refine wpList_load_row rfl 39 (.tmp 8) rfl g8 rfl 39 (eP q) (0, 0) _ HX.out Try.underlying39 rfl (infoEP HQO.out) ?_)
        | (go_at_call 57; refine (drop_two T base st sv l q HQO.out _ l2 HBB.out HL2.out _ (tb_below HT.out HB.out) HS.out HN.out).mono ?_; rintro r w7 ⟨rfl, HT2, HCH⟩; clear c0 c19))
      go_ret2
      exact ⟨_, rfl, HT2.out, ow_chg HO2.out (tb_below HT.out HB.out).blk HCH.out, chg_trans (chg_below HB.out) HCH.out⟩
    | false =>
      go_enter Try.func32, Try.ntmps32
      go_wp2_with (first
        | ((with_reducible refine gate_dst (N := 5) rfl ?_); refine box_event ?hg (N := 5) ?hd (cs := eD d) (t := 53) ?hr ?_; (case hd => rfl); (case hg => rfl); (case hr => first | (go_simp; done) | (go_simp; rfl)); intro g5 hg w1 hbox hb; replace HB := Aside0.mk (below_step HB.out hb); have c0 := dd0 hbox; have c19 := ddV HD.out hbox; have c20 := ddR HD.out hbox; rw [HRAW.out] at c20; have HRP := Aside0.mk (ddP hbox); have H5 := Aside0.mk hbox; clear hb hg hbox)
        | ((with_reducible refine gate_dst (N := 19) rfl ?_); refine wpList_load_mid rfl 39 (.tmp 18) rfl g5 1 rfl (lP d.p) _ HRP.out Try.underlying39 rfl (infoPf_len HD.out) ?_)
        | ((with_reducible refine gate_dst (N := 8) rfl ?_); refine box_event ?hg (N := 8) ?hd (cs := eP noP) (t := 39) ?hr ?_; (case hd => rfl); (case hg => rfl); (case hr => first | (go_simp; done) | (go_simp; rfl)); intro g8 hg w2 hbox hb; have HX := Aside0.mk hbox; have HG8 := Aside0.mk (show w.heap.size ≤ g8 by rw [hg]; exact HB.out.size); have HN58 := Aside0.mk (show g5 ≠ g8 by have := (Array.getElem?_eq_some_iff.1 H5.out).1; omega); replace HB := Aside0.mk (below_step HB.out hb); replace H5 := Aside0.mk (blk_below H5.out hb); clear hb hg hbox HRP)
        | ((with_reducible refine gate_store (t := 39) (p := 8) rfl ?_); refine wpList_store_row rfl 39 (.tmp 8) (.tmp 19) rfl g8 (eP d.p) rfl rfl 39 (eP noP) HX.out (infoEP HD.out) ((show (eP noP).size = 18 from rfl).trans (eP_size HD.out).symm) (eP_one _) ?_; replace HX := Aside0.mk (row_new (cells := eP d.p) HX.out); replace HB := Aside0.mk (below_row HB.out HG8.out (eP d.p)); replace H5 := Aside0.mk ((row_far (cells := eP d.p) HN58.out).trans H5.out); generalize w2.setRow g8 (eP d.p) = w3 at HX HB H5 ⊢; replace c0 := dd0 H5.out; replace c19 := ddV HD.out H5.out; replace c20 := ddR HD.out H5.out; rw [HRAW.out] at c20; rw [HQE.out] at HX)
        | ((with_reducible refine gate_dst (N := 49) rfl ?_); refine wpList_load_row rfl 39 (.tmp 8) rfl g8 rfl 39 (eP q) (0, 0) _ HX.out Try.underlying39 rfl (infoEP HQO.out) ?_)
        | (go_at_call 53; refine (drop_one u l HOK.out q HQO.out _ l2 HBB.out HL2.out _ (own_below HOW.out HB.out) HN.out).mono ?_; rintro r w6 ⟨u2, rfl, HO2, hb⟩; replace HX := Aside0.mk (blk_below HX.out hb); replace H5 := Aside0.mk (blk_below H5.out hb); replace HB := Aside0.mk (below_step HB.out hb); replace c0 := dd0 H5.out; replace c19 := ddV HD.out H5.out; clear hb)
        | ((with_reducible refine gate_dst (N := 56) rfl ?_); refine wpList_load_row rfl 39 (.tmp 8) rfl g8 rfl 39 (eP q) (0, 0) _ HX.out Try.underlying39 rfl (infoEP HQO.out) ?_)
        | (go_at_call 57; refine (drop_two T base st sv l q HQO.out _ l2 HBB.out HL2.out _ (tb_below HT.out HB.out) HS.out HN.out).mono ?_; rintro r w7 ⟨rfl, HT2, HCH⟩; clear c0 c19))
      go_ret2
      exact ⟨_, rfl, HT2.out, ow_chg HO2.out (tb_below HT.out HB.out).blk HCH.out, chg_trans (chg_below HB.out) HCH.out⟩
  | false =>
    have HRAW := Aside0.mk hraw
    have HGO := Aside0.mk (show ∀ w, Calls Try.prog 24 #[.agg (eP d.p)] w fun e w' => e = .returned (.agg (eP q)) ∧ Below w.heap.size w w' by
      have e : q = goodP d.p := by rw [HQ.out]; unfold pfD; rw [hraw]; rfl
      rw [e]
      exact fun w => ref05_Good d.p HD.out w)
    clear hraw
    cases b with
    | true =>
      go_enter Try.func32, Try.ntmps32
      go_wp2_with (first
        | ((with_reducible refine gate_dst (N := 5) rfl ?_); refine box_event ?hg (N := 5) ?hd (cs := eD d) (t := 53) ?hr ?_; (case hd => rfl); (case hg => rfl); (case hr => first | (go_simp; done) | (go_simp; rfl)); intro g5 hg w1 hbox hb; replace HB := Aside0.mk (below_step HB.out hb); have c0 := dd0 hbox; have c19 := ddV HD.out hbox; have c20 := ddR HD.out hbox; rw [HRAW.out] at c20; have HRP := Aside0.mk (ddP hbox); have H5 := Aside0.mk hbox; clear hb hg hbox)
        | ((with_reducible refine gate_dst (N := 19) rfl ?_); refine wpList_load_mid rfl 39 (.tmp 18) rfl g5 1 rfl (lP d.p) _ HRP.out Try.underlying39 rfl (infoPf_len HD.out) ?_)
        | ((with_reducible refine gate_dst (N := 8) rfl ?_); refine box_event ?hg (N := 8) ?hd (cs := eP noP) (t := 39) ?hr ?_; (case hd => rfl); (case hg => rfl); (case hr => first | (go_simp; done) | (go_simp; rfl)); intro g8 hg w2 hbox hb; have HX := Aside0.mk hbox; have HG8 := Aside0.mk (show w.heap.size ≤ g8 by rw [hg]; exact HB.out.size); have HN58 := Aside0.mk (show g5 ≠ g8 by have := (Array.getElem?_eq_some_iff.1 H5.out).1; omega); replace HB := Aside0.mk (below_step HB.out hb); replace H5 := Aside0.mk (blk_below H5.out hb); clear hb hg hbox HRP)
        | ((with_reducible refine gate_store (t := 39) (p := 8) rfl ?_); refine wpList_store_row rfl 39 (.tmp 8) (.tmp 19) rfl g8 (eP d.p) rfl rfl 39 (eP noP) HX.out (infoEP HD.out) ((show (eP noP).size = 18 from rfl).trans (eP_size HD.out).symm) (eP_one _) ?_; replace HX := Aside0.mk (row_new (cells := eP d.p) HX.out); replace HB := Aside0.mk (below_row HB.out HG8.out (eP d.p)); replace H5 := Aside0.mk ((row_far (cells := eP d.p) HN58.out).trans H5.out); generalize w2.setRow g8 (eP d.p) = w3 at HX HB H5 ⊢; replace c0 := dd0 H5.out; replace c19 := ddV HD.out H5.out; replace c20 := ddR HD.out H5.out; rw [HRAW.out] at c20)
        | ((with_reducible refine gate_dst (N := 23) rfl ?_); refine wpList_load_row rfl 39 (.tmp 8) rfl g8 rfl 39 (eP d.p) (0, 0) _ HX.out Try.underlying39 rfl (infoEP HD.out) ?_)
        | (go_at_call 24; refine (HGO.out _).mono ?_; rintro r w4 ⟨rfl, hb⟩; replace HX := Aside0.mk (blk_below HX.out hb); replace H5 := Aside0.mk (blk_below H5.out hb); replace HB := Aside0.mk (below_step HB.out hb); clear hb)
        | ((with_reducible refine gate_store (t := 39) (p := 8) rfl ?_); refine wpList_store_row rfl 39 (.tmp 8) (.tmp 24) rfl g8 (eP q) rfl rfl 39 (eP d.p) HX.out (infoEP HQO.out) ((eP_size HD.out).trans (eP_size HQO.out).symm) (eP_one _) ?_; replace HX := Aside0.mk (row_new (cells := eP q) HX.out); replace HB := Aside0.mk (below_row HB.out HG8.out (eP q)); replace H5 := Aside0.mk ((row_far (cells := eP q) HN58.out).trans H5.out); generalize w4.setRow g8 (eP q) = w5 at HX HB H5 ⊢; replace c0 := dd0 H5.out; replace c19 := ddV HD.out H5.out)
        | ((with_reducible refine gate_dst (N := 49) rfl ?_); refine wpList_load_row rfl 39 (.tmp 8) rfl g8 rfl 39 (eP q) (0, 0) _ HX.out Try.underlying39 rfl (infoEP HQO.out) ?_)
        | (go_at_call 53; refine (drop_one u l HOK.out q HQO.out _ l2 HBB.out HL2.out _ (own_below HOW.out HB.out) HN.out).mono ?_; rintro r w6 ⟨u2, rfl, HO2, hb⟩; replace HX := Aside0.mk (blk_below HX.out hb); replace H5 := Aside0.mk (blk_below H5.out hb); replace HB := Aside0.mk (below_step HB.out hb); replace c0 := dd0 H5.out; replace c19 := ddV HD.out H5.out; clear hb)
        | ((with_reducible refine gate_dst (N := 56) rfl ?_); refine wpList_load_row rfl 39 (.tmp 8) rfl g8 rfl 39 (eP q) (0, 0) _ HX.out Try.underlying39 rfl (infoEP HQO.out) ?_)
        | (go_at_call 57; refine (drop_two T base st sv l q HQO.out _ l2 HBB.out HL2.out _ (tb_below HT.out HB.out) HS.out HN.out).mono ?_; rintro r w7 ⟨rfl, HT2, HCH⟩; clear c0 c19))
      go_ret2
      exact ⟨_, rfl, HT2.out, ow_chg HO2.out (tb_below HT.out HB.out).blk HCH.out, chg_trans (chg_below HB.out) HCH.out⟩
    | false =>
      go_enter Try.func32, Try.ntmps32
      go_wp2_with (first
        | ((with_reducible refine gate_dst (N := 5) rfl ?_); refine box_event ?hg (N := 5) ?hd (cs := eD d) (t := 53) ?hr ?_; (case hd => rfl); (case hg => rfl); (case hr => first | (go_simp; done) | (go_simp; rfl)); intro g5 hg w1 hbox hb; replace HB := Aside0.mk (below_step HB.out hb); have c0 := dd0 hbox; have c19 := ddV HD.out hbox; have c20 := ddR HD.out hbox; rw [HRAW.out] at c20; have HRP := Aside0.mk (ddP hbox); have H5 := Aside0.mk hbox; clear hb hg hbox)
        | ((with_reducible refine gate_dst (N := 19) rfl ?_); refine wpList_load_mid rfl 39 (.tmp 18) rfl g5 1 rfl (lP d.p) _ HRP.out Try.underlying39 rfl (infoPf_len HD.out) ?_)
        | ((with_reducible refine gate_dst (N := 8) rfl ?_); refine box_event ?hg (N := 8) ?hd (cs := eP noP) (t := 39) ?hr ?_; (case hd => rfl); (case hg => rfl); (case hr => first | (go_simp; done) | (go_simp; rfl)); intro g8 hg w2 hbox hb; have HX := Aside0.mk hbox; have HG8 := Aside0.mk (show w.heap.size ≤ g8 by rw [hg]; exact HB.out.size); have HN58 := Aside0.mk (show g5 ≠ g8 by have := (Array.getElem?_eq_some_iff.1 H5.out).1; omega); replace HB := Aside0.mk (below_step HB.out hb); replace H5 := Aside0.mk (blk_below H5.out hb); clear hb hg hbox HRP)
        | ((with_reducible refine gate_store (t := 39) (p := 8) rfl ?_); refine wpList_store_row rfl 39 (.tmp 8) (.tmp 19) rfl g8 (eP d.p) rfl rfl 39 (eP noP) HX.out (infoEP HD.out) ((show (eP noP).size = 18 from rfl).trans (eP_size HD.out).symm) (eP_one _) ?_; replace HX := Aside0.mk (row_new (cells := eP d.p) HX.out); replace HB := Aside0.mk (below_row HB.out HG8.out (eP d.p)); replace H5 := Aside0.mk ((row_far (cells := eP d.p) HN58.out).trans H5.out); generalize w2.setRow g8 (eP d.p) = w3 at HX HB H5 ⊢; replace c0 := dd0 H5.out; replace c19 := ddV HD.out H5.out; replace c20 := ddR HD.out H5.out; rw [HRAW.out] at c20)
        | ((with_reducible refine gate_dst (N := 23) rfl ?_); refine wpList_load_row rfl 39 (.tmp 8) rfl g8 rfl 39 (eP d.p) (0, 0) _ HX.out Try.underlying39 rfl (infoEP HD.out) ?_)
        | (go_at_call 24; refine (HGO.out _).mono ?_; rintro r w4 ⟨rfl, hb⟩; replace HX := Aside0.mk (blk_below HX.out hb); replace H5 := Aside0.mk (blk_below H5.out hb); replace HB := Aside0.mk (below_step HB.out hb); clear hb)
        | ((with_reducible refine gate_store (t := 39) (p := 8) rfl ?_); refine wpList_store_row rfl 39 (.tmp 8) (.tmp 24) rfl g8 (eP q) rfl rfl 39 (eP d.p) HX.out (infoEP HQO.out) ((eP_size HD.out).trans (eP_size HQO.out).symm) (eP_one _) ?_; replace HX := Aside0.mk (row_new (cells := eP q) HX.out); replace HB := Aside0.mk (below_row HB.out HG8.out (eP q)); replace H5 := Aside0.mk ((row_far (cells := eP q) HN58.out).trans H5.out); generalize w4.setRow g8 (eP q) = w5 at HX HB H5 ⊢; replace c0 := dd0 H5.out; replace c19 := ddV HD.out H5.out)
        | ((with_reducible refine gate_dst (N := 49) rfl ?_); refine wpList_load_row rfl 39 (.tmp 8) rfl g8 rfl 39 (eP q) (0, 0) _ HX.out Try.underlying39 rfl (infoEP HQO.out) ?_)
        | (go_at_call 53; refine (drop_one u l HOK.out q HQO.out _ l2 HBB.out HL2.out _ (own_below HOW.out HB.out) HN.out).mono ?_; rintro r w6 ⟨u2, rfl, HO2, hb⟩; replace HX := Aside0.mk (blk_below HX.out hb); replace H5 := Aside0.mk (blk_below H5.out hb); replace HB := Aside0.mk (below_step HB.out hb); replace c0 := dd0 H5.out; replace c19 := ddV HD.out H5.out; clear hb)
        | ((with_reducible refine gate_dst (N := 56) rfl ?_); refine wpList_load_row rfl 39 (.tmp 8) rfl g8 rfl 39 (eP q) (0, 0) _ HX.out Try.underlying39 rfl (infoEP HQO.out) ?_)
        | (go_at_call 57; refine (drop_two T base st sv l q HQO.out _ l2 HBB.out HL2.out _ (tb_below HT.out HB.out) HS.out HN.out).mono ?_; rintro r w7 ⟨rfl, HT2, HCH⟩; clear c0 c19))
      go_ret2
      exact ⟨_, rfl, HT2.out, ow_chg HO2.out (tb_below HT.out HB.out).blk HCH.out, chg_trans (chg_below HB.out) HCH.out⟩
set_option maxHeartbeats 4000000 in
set_option maxRecDepth 100000 in
theorem does_2 (T base : Nat) (st : Int) (sv : Value) (u : Value) (l l2 : List En) (d : De) (q : Pf) (hq : q = pfD d) (hd : d.p.a.ok) (w : World) (ht : Tb w T base st sv l) (ho : Ow w u l) (hs : Sorted l) (hn : l.length ≤ 1000) (hb0 : base ≤ w.heap.size) (hl2 : l2 = l) (hk : ¬ d.kind = 0) (hk1 : ¬ d.kind = 1) :
    Calls Try.prog 32 #[.pointer (some ⟨T, 0, none⟩), u, .agg (eD d)] w fun r w' => ∃ u', r = .returned (.tuple #[u', .bool true]) ∧ (∃ sv', Tb w' T base st sv' l2) ∧ Ow w' u' l2 ∧ Chg T base w w' := by
  have HB := Aside0.mk (Below.refl w.heap.size w)
  have HD := Aside0.mk hd
  have HQ := Aside0.mk hq
  have HQO := Aside0.mk (show q.a.ok by rw [hq]; exact ok_pfD hd)
  have HT := Aside0.mk ht
  have HOW := Aside0.mk ho
  have HS := Aside0.mk hs
  have HN := Aside0.mk hn
  have HOK := Aside0.mk ht.ok
  have HB0 := Aside0.mk hb0
  have HL2 := Aside0.mk hl2
  have k0 : (d.kind == 0) = false := beq_eq_false_iff_ne.2 hk
  have k1 : (d.kind == 1) = false := beq_eq_false_iff_ne.2 hk1
  obtain ⟨x, hx⟩ : ∃ x : Int, x = valE l q := ⟨_, rfl⟩
  obtain ⟨b, hb⟩ : ∃ b : Bool, b = hasE l q := ⟨_, rfl⟩
  have HGT := Aside0.mk (show ∀ w, Tb w T base st sv l → Calls Try.prog 58 #[.pointer (some ⟨T, 0, none⟩), .agg (eP q)] w fun r w' => r = .returned (.tuple #[.int .i64 x, .bool b]) ∧ Below w.heap.size w w' by
    rw [hx, hb]
    exact fun w h => table_Get T base st sv l q HQO.out w h HS.out (Nat.le_trans HN.out (by decide)))
  have HGR := Aside0.mk (show ∀ w, Ow w u l → Calls Try.prog 59 #[u, .agg (eP q)] w fun r w' => r = .returned (.tuple #[.int .i64 x, .bool b]) ∧ Below w.heap.size w w' by
    rw [hx, hb]
    exact fun w h => ref_Get u l HOK.out q HQO.out w h HN.out)
  clear hd hq ht ho hs hn hb0 hl2 hk hk1 hx hb
  cases hraw : d.raw with
  | true =>
    have HRAW := Aside0.mk hraw
    have HQE := Aside0.mk (show d.p = q by rw [HQ.out]; unfold pfD; rw [hraw]; rfl)
    clear hraw
    go_enter Try.func32, Try.ntmps32
    go_wp2_with (first
      | ((with_reducible refine gate_dst (N := 5) rfl ?_); refine box_event ?hg (N := 5) ?hd (cs := eD d) (t := 53) ?hr ?_; (case hd => rfl); (case hg => rfl); (case hr => first | (go_simp; done) | (go_simp; rfl)); intro g5 hg w1 hbox hb; replace HB := Aside0.mk (below_step HB.out hb); have c0 := dd0 hbox; have c19 := ddV HD.out hbox; have c20 := ddR HD.out hbox; rw [HRAW.out] at c20; have HRP := Aside0.mk (ddP hbox); have H5 := Aside0.mk hbox; clear hb hg hbox)
      | ((with_reducible refine gate_dst (N := 19) rfl ?_); refine wpList_load_mid rfl 39 (.tmp 18) rfl g5 1 rfl (lP d.p) _ HRP.out Try.underlying39 rfl (infoPf_len HD.out) ?_)
      | ((with_reducible refine gate_dst (N := 8) rfl ?_); refine box_event ?hg (N := 8) ?hd (cs := eP noP) (t := 39) ?hr ?_; (case hd => rfl); (case hg => rfl); (case hr => first | (go_simp; done) | (go_simp; rfl)); intro g8 hg w2 hbox hb; have HX := Aside0.mk hbox; have HG8 := Aside0.mk (show w.heap.size ≤ g8 by rw [hg]; exact HB.out.size); have HN58 := Aside0.mk (show g5 ≠ g8 by have := (Array.getElem?_eq_some_iff.1 H5.out).1; omega); replace HB := Aside0.mk (below_step HB.out hb); replace H5 := Aside0.mk (blk_below H5.out hb); clear hb hg hbox HRP)
      | ((with_reducible refine gate_store (t := 39) (p := 8) rfl ?_); refine wpList_store_row rfl 39 (.tmp 8) (.tmp 19) rfl g8 (eP d.p) rfl rfl 39 (eP noP) HX.out (infoEP HD.out) ((show (eP noP).size = 18 from rfl).trans (eP_size HD.out).symm) (eP_one _) ?_; replace HX := Aside0.mk (row_new (cells := eP d.p) HX.out); replace HB := Aside0.mk (below_row HB.out HG8.out (eP d.p)); replace H5 := Aside0.mk ((row_far (cells := eP d.p) HN58.out).trans H5.out); generalize w2.setRow g8 (eP d.p) = w3 at HX HB H5 ⊢; replace c0 := dd0 H5.out; replace c19 := ddV HD.out H5.out; replace c20 := ddR HD.out H5.out; rw [HRAW.out] at c20; rw [HQE.out] at HX)
      | ((with_reducible refine gate_dst (N := 62) rfl ?_); refine wpList_load_row rfl 39 (.tmp 8) rfl g8 rfl 39 (eP q) (0, 0) _ HX.out Try.underlying39 rfl (infoEP HQO.out) ?_)
      | (go_at_call 58; refine (HGT.out _ (tb_below HT.out HB.out)).mono ?_; rintro r w6 ⟨rfl, hb⟩; replace HX := Aside0.mk (blk_below HX.out hb); replace H5 := Aside0.mk (blk_below H5.out hb); replace HB := Aside0.mk (below_step HB.out hb); replace c0 := dd0 H5.out; replace c19 := ddV HD.out H5.out; clear hb)
      | ((with_reducible refine gate_dst (N := 68) rfl ?_); refine wpList_load_row rfl 39 (.tmp 8) rfl g8 rfl 39 (eP q) (0, 0) _ HX.out Try.underlying39 rfl (infoEP HQO.out) ?_)
      | (go_at_call 59; refine (HGR.out _ (own_below HOW.out HB.out)).mono ?_; rintro r w7 ⟨rfl, hb⟩; replace HX := Aside0.mk (blk_below HX.out hb); replace H5 := Aside0.mk (blk_below H5.out hb); replace HB := Aside0.mk (below_step HB.out hb); replace c0 := dd0 H5.out; replace c19 := ddV HD.out H5.out; clear hb))
    go_ret2
    exact ⟨_, rfl, ⟨sv, by rw [HL2.out]; exact tb_below HT.out HB.out⟩, by rw [HL2.out]; exact own_below HOW.out HB.out, chg_below HB.out⟩
  | false =>
    have HRAW := Aside0.mk hraw
    have HGO := Aside0.mk (show ∀ w, Calls Try.prog 24 #[.agg (eP d.p)] w fun e w' => e = .returned (.agg (eP q)) ∧ Below w.heap.size w w' by
      have e : q = goodP d.p := by rw [HQ.out]; unfold pfD; rw [hraw]; rfl
      rw [e]
      exact fun w => ref05_Good d.p HD.out w)
    clear hraw
    go_enter Try.func32, Try.ntmps32
    go_wp2_with (first
      | ((with_reducible refine gate_dst (N := 5) rfl ?_); refine box_event ?hg (N := 5) ?hd (cs := eD d) (t := 53) ?hr ?_; (case hd => rfl); (case hg => rfl); (case hr => first | (go_simp; done) | (go_simp; rfl)); intro g5 hg w1 hbox hb; replace HB := Aside0.mk (below_step HB.out hb); have c0 := dd0 hbox; have c19 := ddV HD.out hbox; have c20 := ddR HD.out hbox; rw [HRAW.out] at c20; have HRP := Aside0.mk (ddP hbox); have H5 := Aside0.mk hbox; clear hb hg hbox)
      | ((with_reducible refine gate_dst (N := 19) rfl ?_); refine wpList_load_mid rfl 39 (.tmp 18) rfl g5 1 rfl (lP d.p) _ HRP.out Try.underlying39 rfl (infoPf_len HD.out) ?_)
      | ((with_reducible refine gate_dst (N := 8) rfl ?_); refine box_event ?hg (N := 8) ?hd (cs := eP noP) (t := 39) ?hr ?_; (case hd => rfl); (case hg => rfl); (case hr => first | (go_simp; done) | (go_simp; rfl)); intro g8 hg w2 hbox hb; have HX := Aside0.mk hbox; have HG8 := Aside0.mk (show w.heap.size ≤ g8 by rw [hg]; exact HB.out.size); have HN58 := Aside0.mk (show g5 ≠ g8 by have := (Array.getElem?_eq_some_iff.1 H5.out).1; omega); replace HB := Aside0.mk (below_step HB.out hb); replace H5 := Aside0.mk (blk_below H5.out hb); clear hb hg hbox HRP)
      | ((with_reducible refine gate_store (t := 39) (p := 8) rfl ?_); refine wpList_store_row rfl 39 (.tmp 8) (.tmp 19) rfl g8 (eP d.p) rfl rfl 39 (eP noP) HX.out (infoEP HD.out) ((show (eP noP).size = 18 from rfl).trans (eP_size HD.out).symm) (eP_one _) ?_; replace HX := Aside0.mk (row_new (cells := eP d.p) HX.out); replace HB := Aside0.mk (below_row HB.out HG8.out (eP d.p)); replace H5 := Aside0.mk ((row_far (cells := eP d.p) HN58.out).trans H5.out); generalize w2.setRow g8 (eP d.p) = w3 at HX HB H5 ⊢; replace c0 := dd0 H5.out; replace c19 := ddV HD.out H5.out; replace c20 := ddR HD.out H5.out; rw [HRAW.out] at c20)
      | ((with_reducible refine gate_dst (N := 23) rfl ?_); refine wpList_load_row rfl 39 (.tmp 8) rfl g8 rfl 39 (eP d.p) (0, 0) _ HX.out Try.underlying39 rfl (infoEP HD.out) ?_)
      | (go_at_call 24; refine (HGO.out _).mono ?_; rintro r w4 ⟨rfl, hb⟩; replace HX := Aside0.mk (blk_below HX.out hb); replace H5 := Aside0.mk (blk_below H5.out hb); replace HB := Aside0.mk (below_step HB.out hb); clear hb)
      | ((with_reducible refine gate_store (t := 39) (p := 8) rfl ?_); refine wpList_store_row rfl 39 (.tmp 8) (.tmp 24) rfl g8 (eP q) rfl rfl 39 (eP d.p) HX.out (infoEP HQO.out) ((eP_size HD.out).trans (eP_size HQO.out).symm) (eP_one _) ?_; replace HX := Aside0.mk (row_new (cells := eP q) HX.out); replace HB := Aside0.mk (below_row HB.out HG8.out (eP q)); replace H5 := Aside0.mk ((row_far (cells := eP q) HN58.out).trans H5.out); generalize w4.setRow g8 (eP q) = w5 at HX HB H5 ⊢; replace c0 := dd0 H5.out; replace c19 := ddV HD.out H5.out)
      | ((with_reducible refine gate_dst (N := 62) rfl ?_); refine wpList_load_row rfl 39 (.tmp 8) rfl g8 rfl 39 (eP q) (0, 0) _ HX.out Try.underlying39 rfl (infoEP HQO.out) ?_)
      | (go_at_call 58; refine (HGT.out _ (tb_below HT.out HB.out)).mono ?_; rintro r w6 ⟨rfl, hb⟩; replace HX := Aside0.mk (blk_below HX.out hb); replace H5 := Aside0.mk (blk_below H5.out hb); replace HB := Aside0.mk (below_step HB.out hb); replace c0 := dd0 H5.out; replace c19 := ddV HD.out H5.out; clear hb)
      | ((with_reducible refine gate_dst (N := 68) rfl ?_); refine wpList_load_row rfl 39 (.tmp 8) rfl g8 rfl 39 (eP q) (0, 0) _ HX.out Try.underlying39 rfl (infoEP HQO.out) ?_)
      | (go_at_call 59; refine (HGR.out _ (own_below HOW.out HB.out)).mono ?_; rintro r w7 ⟨rfl, hb⟩; replace HX := Aside0.mk (blk_below HX.out hb); replace H5 := Aside0.mk (blk_below H5.out hb); replace HB := Aside0.mk (below_step HB.out hb); replace c0 := dd0 H5.out; replace c19 := ddV HD.out H5.out; clear hb))
    go_ret2
    exact ⟨_, rfl, ⟨sv, by rw [HL2.out]; exact tb_below HT.out HB.out⟩, by rw [HL2.out]; exact own_below HOW.out HB.out, chg_below HB.out⟩
theorem law_does (T base : Nat) (st : Int) (sv : Value) (u : Value) (l : List En) (d : De) (hd : d.p.a.ok) (w : World) (ht : Tb w T base st sv l) (ho : Ow w u l) (hs : Sorted l) (hn : l.length ≤ 1000) (hb0 : base ≤ w.heap.size) :
    Calls Try.prog 32 #[.pointer (some ⟨T, 0, none⟩), u, .agg (eD d)] w fun r w' => ∃ u', r = .returned (.tuple #[u', .bool true]) ∧ (∃ sv', Tb w' T base st sv' (doE l d)) ∧ Ow w' u' (doE l d) ∧ Chg T base w w' := by
  by_cases hk : d.kind = 0
  · exact does_0 T base st sv u l (doE l d) d (pfD d) rfl hd w ht ho hs hn hb0 (by unfold doE; rw [if_pos hk]) hk
  · by_cases hk1 : d.kind = 1
    · exact does_1 T base st sv u l (doE l d) d (pfD d) rfl hd w ht ho hs hn hb0 (by unfold doE; rw [if_neg hk, if_pos hk1]) hk hk1
    · exact does_2 T base st sv u l (doE l d) d (pfD d) rfl hd w ht ho hs hn hb0 (by unfold doE; rw [if_neg hk, if_neg hk1]) hk hk1
end Go.Proofs.Ythjhbhgfckaklaa.P
