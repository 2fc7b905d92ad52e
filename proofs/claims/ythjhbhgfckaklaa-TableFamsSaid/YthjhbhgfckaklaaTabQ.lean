/-
  A prefix of no bits has all addresses of its family (the walk).
-/
import Derived.Test.YthjhbhgfckaklaaTabO
namespace Go.Proofs.Ythjhbhgfckaklaa.P
open Go.RowKit Go.Proofs.YthjhbhgfckaklaaW.PrintWords Go.Proofs.YthjhbhgfckaklaaW.PrintLast Go.Proofs.YthjhbhgfckaklaaW.PrintMore
set_option linter.unusedVariables false
set_option linter.unusedSimpArgs false
theorem built_fam (f : Int) : Try.prog.built 34 [(0, .int .i64 f)] = some (eA ⟨f, zeros16⟩) := by kernel_rfl
section
variable {ops : Array Oper} {rest : List Oper} {o : Oper} {a : Act} {w : World} {Q : Exit → Act → World → Prop}
theorem wp_build_fam (hgd : o.guard = none) (x : Operand) (f : Int) (ho : o.op = .build 34 #[(0, x)]) (hx : a.eval x = .int .i64 f) (h : wpList Try.prog ops Q rest (a.put o.dst (.agg (eA ⟨f, zeros16⟩))) w) : wpList Try.prog ops Q (o :: rest) a w := by
  have hb : Try.prog.built 34 ((#[(0, x)] : Array (Nat × Operand)).map fun (i, y) => (i, a.eval y)).toList = some (eA ⟨f, zeros16⟩) := by
    simp only [List.map_toArray, List.map_cons, List.map_nil, hx]
    exact built_fam f
  refine Kd.event_run hgd (v := .agg (eA ⟨f, zeros16⟩)) (w1 := w) ?_ h
  unfold execOp
  simp only [ho, Sem.run_bind, run_build w _ _ _ hb, Result.andThen_ok]
  simp
end
theorem set_shp (T base : Nat) (st : Int) (sv : Value) (l : List En) (p : Pf) (hp : p.a.ok) (v : Int) (w : World) (ht : Tb w T base st sv l) (hs : Sorted l) (hn : l.length ≤ 1000) (hm : mayQ p = true) (hh : hasE l p = false) (hb0 : base ≤ w.heap.size) (l2 : List En) (hl2 : setE l p v = l2) :
    Calls Try.prog 21 #[.pointer (some ⟨T, 0, none⟩), .agg (eP p), .int .i64 v] w fun r w' => r = .returned (.int .i64 0) ∧ (∃ sv', Tb w' T base st sv' l2) ∧ Chg T base w w' ∧ Shp T sv w w' := by
  rw [← hl2]
  exact table_Set_new' T base st sv l p hp v w ht hs hn hm hh hb0
theorem fam_cell {w : World} {g : Nat} {a : Ad} {t : TypeId} (h : w.heap[g]? = some (.cells (eA a) t (0, 0))) : w.cell? ⟨g, 0, none⟩ = some (.int .i64 a.fam) := by
  rw [cell_of_row w g 0 _ t (0, 0) h]
  rfl
theorem val_cell {w : World} {g : Nat} {e : En} {t : TypeId} (he : e.p.a.ok) (h : w.heap[g]? = some (.cells (eE e) t (0, 0))) : w.cell? ⟨g, 18, none⟩ = some (.int .i64 e.v) := by
  have := part_v he (range_row (xs := lE e) h)
  rw [Nat.zero_add] at this
  exact this
theorem tb_row {w : World} {T base g : Nat} {st : Int} {v : Value} {l : List En} {cells : Array Value} (h : Tb w T base st v l) (hT : g ≠ T) (ho : some g ≠ v.ownBlock) : Tb (w.setRow g cells) T base st v l :=
  ⟨(row_far (Ne.symm hT)).trans h.blk, h.row.kept (row := some g) ⟨rfl, rfl, rfl, by rw [row_size]; exact Nat.le_refl _, fun k _ hk => row_far (fun e => hk (by rw [e]))⟩ (.inr (fun e => ho e.symm)), h.ok⟩
set_option maxHeartbeats 4000000 in
set_option maxRecDepth 100000 in
theorem len_blk (T : Nat) (A : Option Addr) (n cap : Nat) (z : Value) {w : World} (hb : w.heap[T]? = some (.cells #[.slice A n cap, z] 90 (0, 0))) : Calls Try.prog 22 #[.pointer (some ⟨T, 0, none⟩)] w fun r w' => r = .returned (.int .i64 (n : Int)) ∧ Below w.heap.size w w' := by
  have HB := Aside0.mk (Below.refl w.heap.size w)
  have h0 : w.cell? ⟨T, 0, none⟩ = some (.slice A n cap) := blk_cell hb 0
  clear hb
  go_enter Try.func22, Try.ntmps22
  go_wp2
  go_ret
  exact ⟨rfl, HB.out⟩
theorem own_fresh {w : World} {base n g : Nat} {te : TypeId} {v : Value} {xs : List Value} (h : w.ownsRow base te 19 v n xs) (hg : w.heap.size ≤ g) : some g ≠ v.ownBlock := by
  rcases h.2 with ⟨rfl, _⟩ | ⟨g', cap, cur, rfl, hb, hgg, _⟩
  · intro e; cases e
  · intro e
    have e' : g = g' := Option.some.inj e
    have := (Array.getElem?_eq_some_iff.1 hgg).1
    omega
theorem new_one (p : Pf) (hp : p.a.ok) (x : Int) (l1 : List En) (hl1 : l1 = newE [] [⟨p, x⟩]) (w : World) (vb : Nat) (hvb : vb < w.heap.size) (hrd : Rd w 50 (some ⟨vb, 0, none⟩) 1 1 vb [⟨p, x⟩]) :
    Calls Try.prog 18 #[.slice (some ⟨vb, 0, none⟩) 1 1] w fun r w' => r = .returned (.pointer (some ⟨w.heap.size, 0, none⟩)) ∧ (∃ sv, Tb w' w.heap.size w.heap.size 0 sv l1) ∧ Below w.heap.size w w' := by
  rw [hl1]
  exact table_New (some ⟨vb, 0, none⟩) 1 vb [⟨⟨p, x⟩, hp⟩] (show (1 : Nat) ≤ 900 by decide) w hrd hvb
set_option maxHeartbeats 4000000 in
set_option maxRecDepth 100000 in
theorem fams_4 (a0 a : Ad) (ha0 : a0.ok) (ha : a.ok) (hga : goodA a0 = a) (hf : a.fam = 4) (x y : Int) (p4 p6 : Pf) (hp4 : p4.a.ok) (hp6 : p6.a.ok) (l1 l2 : List En) (e1 e2 : En) (he1 : e1.p.a.ok) (he2 : e2.p.a.ok)
    (hm4 : ∀ w, Calls Try.prog 19 #[.agg (eA ⟨4, zeros16⟩), .int .i64 0] w fun e w' => e = .returned (.agg (eP p4)) ∧ Below w.heap.size w w')
    (hm6 : ∀ w, Calls Try.prog 19 #[.agg (eA ⟨6, zeros16⟩), .int .i64 0] w fun e w' => e = .returned (.agg (eP p6)) ∧ Below w.heap.size w w')
    (hl1 : l1 = newE [] [⟨p4, x⟩]) (hl2 : setE l1 p6 y = l2) (hq6 : mayQ p6 = true) (hh6 : hasE l1 p6 = false) (hs1 : Sorted l1) (hs2 : Sorted l2) (hn1 : l1.length = 1) (hn2 : l2.length = 2)
    (hf1 : findQ l1 a = some e1) (hf2 : findQ l2 a = some e2) (hv1 : e1.v = x) (hv2 : e2.v = x) (w : World) :
    Calls Try.prog 4 #[.agg (eA a0), .int .i64 x, .int .i64 y] w fun r w' => r = .returned (.bool true) ∧ Below w.heap.size w w' := by
  have HB := Aside0.mk (Below.refl w.heap.size w)
  have HA0 := Aside0.mk ha0
  have HA := Aside0.mk ha
  have HFM := Aside0.mk hf
  have HGA := Aside0.mk (show ∀ w, Calls Try.prog 17 #[.agg (eA a0)] w fun e w' => e = .returned (.agg (eA a)) ∧ Below w.heap.size w w' by rw [← hga]; exact fun w => ref04_Good a0 ha0 w)
  have HP4 := Aside0.mk hp4
  have HP6 := Aside0.mk hp6
  have HE1 := Aside0.mk he1
  have HE2 := Aside0.mk he2
  have HM4 := Aside0.mk hm4
  have HM6 := Aside0.mk hm6
  have HN4 := Aside0.mk (new_one p4 hp4 x l1 hl1)
  have HS6 := Aside0.mk (fun T base st sv w ht hb0 => set_shp T base st sv l1 p6 hp6 y w ht hs1 (by rw [hn1]; decide) hq6 hh6 hb0 l2 hl2)
  have HN2 := Aside0.mk hn2
  have HBL := Aside0.mk (show blen l1.length ≤ 1 by rw [hn1]; exact blen_le 1)
  have HF1 := Aside0.mk (show ∀ (T base : Nat) (st : Int) (v : Value) (w : World), Tb w T base st v l1 → 0 ≤ st ∧ st ≤ 100000000 → Calls Try.prog 20 #[.pointer (some ⟨T, 0, none⟩), .agg (eA a)] w fun r w' => ∃ m : Nat, r = .returned (.tuple #[.agg (eE e1), .bool true]) ∧ m ≤ 129 * (blen l1.length + 1) ∧ Ticks T 1 w w' (st + (m : Int)) from fun T base st v w ht hst => (table_Find T base st v l1 a ha w ht hs1 (by rw [hn1]; decide) hst).mono (fun r w' h => by rw [hf1] at h; exact h))
  have HF2 := Aside0.mk (show ∀ (T base : Nat) (st : Int) (v : Value) (w : World), Tb w T base st v l2 → 0 ≤ st ∧ st ≤ 100000000 → Calls Try.prog 20 #[.pointer (some ⟨T, 0, none⟩), .agg (eA a)] w fun r w' => ∃ m : Nat, r = .returned (.tuple #[.agg (eE e2), .bool true]) ∧ m ≤ 129 * (blen l2.length + 1) ∧ Ticks T 1 w w' (st + (m : Int)) from fun T base st v w ht hst => (table_Find T base st v l2 a ha w ht hs2 (by rw [hn2]; decide) hst).mono (fun r w' h => by rw [hf2] at h; exact h))
  have HV1 := Aside0.mk hv1
  have HV2 := Aside0.mk hv2
  clear ha0 ha hga hf hp4 hp6 he1 he2 hm4 hm6 hl1 hl2 hq6 hh6 hs1 hs2 hn1 hn2 hf1 hf2 hv1 hv2
  go_enter Try.func4, Try.ntmps4
  go_wp2_with (first
    | ((with_reducible refine gate_dst (N := 3) rfl ?_); refine box_event ?hg (N := 3) ?hd (cs := eA a0) (t := 34) ?hr ?_; (case hd => rfl); (case hg => rfl); (case hr => first | (go_simp; done) | (go_simp; rfl)); intro g3 hg w1 hbox hb; have H3 := Aside0.mk hbox; have HG3 := Aside0.mk (show w.heap.size ≤ g3 by rw [hg]; exact HB.out.size); replace HB := Aside0.mk (below_step HB.out hb); clear hb hg hbox)
    | ((with_reducible refine gate_dst (N := 12) rfl ?_); refine wpList_load_row rfl 34 (.tmp 3) rfl g3 rfl 34 (eA a0) (0, 0) _ H3.out Try.underlying34 rfl (infoE HA0.out) ?_)
    | (go_at_call 17; refine (HGA.out _).mono ?_; rintro r w2 ⟨rfl, hb⟩; replace H3 := Aside0.mk (blk_below H3.out hb); replace HB := Aside0.mk (below_step HB.out hb); clear hb)
    | ((with_reducible refine gate_store (t := 34) (p := 3) rfl ?_); refine wpList_store_row rfl 34 (.tmp 3) (.tmp 13) rfl g3 (eA a) rfl rfl 34 (eA a0) H3.out (infoE HA.out) ((eA_size HA0.out).trans (eA_size HA.out).symm) (eA_one _) ?_; replace H3 := Aside0.mk (row_new (cells := eA a) H3.out); replace HB := Aside0.mk (below_row HB.out HG3.out (eA a)); generalize w2.setRow g3 (eA a) = w3 at H3 HB ⊢)
    | ((with_reducible refine gate_dst (N := 14) rfl ?_); refine wp_build_fam rfl (.const (.int .i64 4)) 4 rfl rfl ?_)
    | (go_at_call 19; have CC := HM4; clear HM4; refine (CC.out _).mono ?_; rintro r w4 ⟨rfl, hb⟩; replace H3 := Aside0.mk (blk_below H3.out hb); replace HB := Aside0.mk (below_step HB.out hb); clear hb CC)
    | ((with_reducible refine gate_dst (N := 17) rfl ?_); refine wp_build_ef rfl (.tmp 15) (.tmp 16) p4 x rfl rfl rfl HP4.out ?_)
    | ((with_reducible refine gate_dst (N := 18) rfl ?_); refine wp_lit_one rfl (N := 18) rfl (.tmp 17) rfl ⟨p4, x⟩ HP4.out rfl ?_; intro vb w5 hvb hrd hb; replace H3 := Aside0.mk (blk_below H3.out hb); replace HB := Aside0.mk (below_step HB.out hb); have HVB := Aside0.mk hvb; have HRD := Aside0.mk hrd; clear hb hvb hrd)
    | (go_at_call 18; refine (HN4.out _ vb HVB.out HRD.out).mono ?_; rintro r w6 ⟨rfl, ⟨sv, ht⟩, hb⟩; have HT := Aside0.mk ht; have HL := Aside0.mk HB.out.size; have H3T := Aside0.mk (show g3 ≠ w5.heap.size by have := (Array.getElem?_eq_some_iff.1 H3.out).1; omega); replace H3 := Aside0.mk (blk_below H3.out hb); replace HB := Aside0.mk (below_step HB.out hb); generalize w5.heap.size = T at HT HL H3T ⊢; clear hb ht)
    | ((with_reducible refine gate_dst (N := 24) rfl ?_); refine wpList_load_row rfl 34 (.tmp 3) rfl g3 rfl 34 (eA a) (0, 0) _ H3.out Try.underlying34 rfl (infoE HA.out) ?_)
    | (go_at_call 20; have CC := HF1; clear HF1; refine (CC.out T _ 0 sv _ HT.out (by decide)).mono ?_; rintro r w7 ⟨m, rfl, hm, htk⟩; rw [Int.zero_add] at htk; replace H3 := Aside0.mk (ticks_blk htk H3.out H3T.out); replace HT := Aside0.mk (tb_ticks HT.out htk); replace HB := Aside0.mk (ticks_new HB.out htk HL.out (Nat.le_refl _)); have HM := Aside0.mk (show (0 : Int) ≤ (m : Int) ∧ (m : Int) ≤ 100000000 by have := HBL.out; omega); clear hm htk CC)
    | ((with_reducible refine gate_dst (N := 8) rfl ?_); refine box_event ?hg (N := 8) ?hd (cs := eE noE) (t := 42) ?hr ?_; (case hd => rfl); (case hg => rfl); (case hr => first | (go_simp; done) | (go_simp; rfl)); intro g8 hg w8 hbox hb; have H8 := Aside0.mk hbox; have HG8 := Aside0.mk (show w.heap.size ≤ g8 by rw [hg]; exact HB.out.size); have H38 := Aside0.mk (show g3 ≠ g8 by have := (Array.getElem?_eq_some_iff.1 H3.out).1; omega); have HT8 := Aside0.mk (show g8 ≠ T by have := (Array.getElem?_eq_some_iff.1 HT.out.blk).1; omega); have HO8 := Aside0.mk (own_fresh HT.out.row (g := g8) (by omega)); replace HT := Aside0.mk (tb_below HT.out hb); replace H3 := Aside0.mk (blk_below H3.out hb); replace HB := Aside0.mk (below_step HB.out hb); clear hb hg hbox)
    | ((with_reducible refine gate_store (t := 42) (p := 8) rfl ?_); refine wpList_store_row rfl 42 (.tmp 8) (.tmp 26) rfl g8 (eE e1) rfl rfl 42 (eE noE) H8.out (infoEE HE1.out) ((eE_size ok_noE).trans (eE_size HE1.out).symm) (eE_one _) ?_; replace HT := Aside0.mk (tb_row (cells := eE e1) HT.out HT8.out HO8.out); replace H3 := Aside0.mk ((row_far (cells := eE e1) H38.out).trans H3.out); replace H8 := Aside0.mk (row_new (cells := eE e1) H8.out); replace HB := Aside0.mk (below_row HB.out HG8.out (eE e1)); generalize w8.setRow g8 (eE e1) = w9 at H3 H8 HB HT ⊢; have c30 := fam_cell H3.out; rw [HFM.out] at c30; have c8 := val_cell HE1.out H8.out; rw [HV1.out] at c8)
    | ((with_reducible refine gate_dst (N := 43) rfl ?_); refine wp_build_fam rfl (.const (.int .i64 6)) 6 rfl rfl ?_)
    | (go_at_call 19; refine (HM6.out _).mono ?_; rintro r w10 ⟨rfl, hb⟩; replace HT := Aside0.mk (tb_below HT.out hb); replace H8 := Aside0.mk (blk_below H8.out hb); replace H3 := Aside0.mk (blk_below H3.out hb); replace HB := Aside0.mk (below_step HB.out hb); clear hb c30)
    | (go_at_call 21; refine (HS6.out T _ _ sv _ HT.out (Nat.le_of_lt (Array.getElem?_eq_some_iff.1 HT.out.blk).1)).mono ?_; rintro r w11 ⟨rfl, ⟨sv2, ht2⟩, hch, hsh⟩; replace HB := Aside0.mk (HB.out.trans ((chg_base hch (Nat.le_refl _) (Nat.le_of_lt (Array.getElem?_eq_some_iff.1 HT.out.blk).1)).mono HL.out)); obtain ⟨cs8, hc8, hz8⟩ := hsh g8 _ _ HT8.out HO8.out H8.out; replace H8 := Aside0.mk hc8; have HZ8 := Aside0.mk hz8; replace H3 := Aside0.mk (hch.block g3 _ H3T.out H3.out (.inr (fun cs fr e => by cases e))); replace HT := Aside0.mk ht2; clear ht2 hch hsh hc8 hz8)
    | ((with_reducible refine gate_dst (N := 49) rfl ?_); refine wpList_load_row rfl 34 (.tmp 3) rfl g3 rfl 34 (eA a) (0, 0) _ H3.out Try.underlying34 rfl (infoE HA.out) ?_)
    | (go_at_call 20; refine (HF2.out T _ _ sv2 _ HT.out HM.out).mono ?_; rintro r w12 ⟨m2, rfl, hm, htk⟩; replace H3 := Aside0.mk (ticks_blk htk H3.out H3T.out); replace H8 := Aside0.mk (ticks_blk htk H8.out HT8.out); replace HT := Aside0.mk (tb_ticks HT.out htk); replace HB := Aside0.mk (ticks_new HB.out htk HL.out (Nat.le_refl _)); obtain ⟨A2, cap2, G2, hsv, _, _⟩ := rd_of_row HT.out.row HT.out.ok 50 (fun g n cap i w hi => idx_en g n cap i w hi) 0; have HTB := Aside0.mk (show w12.heap[T]? = some (.cells #[.slice A2 l2.length cap2, .int .i64 ((m : Int) + (m2 : Int))] 90 (0, 0)) by rw [← hsv]; exact HT.out.blk); clear hm htk hsv)
    | ((with_reducible refine gate_store (t := 42) (p := 8) rfl ?_); refine wpList_store_row rfl 42 (.tmp 8) (.tmp 51) rfl g8 (eE e2) rfl rfl 42 cs8 H8.out (infoEE HE2.out) (HZ8.out.trans ((eE_size HE1.out).trans (eE_size HE2.out).symm)) (eE_one _) ?_; replace H3 := Aside0.mk ((row_far (cells := eE e2) H38.out).trans H3.out); replace H8 := Aside0.mk (row_new (cells := eE e2) H8.out); replace HB := Aside0.mk (below_row HB.out HG8.out (eE e2)); replace HTB := Aside0.mk ((row_far (cells := eE e2) (Ne.symm HT8.out)).trans HTB.out); clear HT HO8; generalize w12.setRow g8 (eE e2) = w13 at H3 H8 HB HTB ⊢; have c30 := fam_cell H3.out; rw [HFM.out] at c30; have c8 := val_cell HE2.out H8.out; rw [HV2.out] at c8)
    | (go_at_call 22; refine (len_blk T _ _ _ _ HTB.out).mono ?_; rintro r w14 ⟨rfl, hb⟩; rw [HN2.out]; replace HB := Aside0.mk (below_step HB.out hb); clear hb c30 c8)
    | (go_at_call 23; refine (law_lives _).mono ?_; rintro r w15 ⟨rfl, hb⟩; replace HB := Aside0.mk (below_step HB.out hb); clear hb))
  go_ret
  exact ⟨rfl, HB.out⟩
set_option maxHeartbeats 4000000 in
set_option maxRecDepth 100000 in
theorem fams_6 (a0 a : Ad) (ha0 : a0.ok) (ha : a.ok) (hga : goodA a0 = a) (hf : a.fam = 6) (x y : Int) (p4 p6 : Pf) (hp4 : p4.a.ok) (hp6 : p6.a.ok) (l1 l2 : List En) (e1 e2 : En) (he1 : e1.p.a.ok) (he2 : e2.p.a.ok)
    (hm4 : ∀ w, Calls Try.prog 19 #[.agg (eA ⟨4, zeros16⟩), .int .i64 0] w fun e w' => e = .returned (.agg (eP p4)) ∧ Below w.heap.size w w')
    (hm6 : ∀ w, Calls Try.prog 19 #[.agg (eA ⟨6, zeros16⟩), .int .i64 0] w fun e w' => e = .returned (.agg (eP p6)) ∧ Below w.heap.size w w')
    (hl1 : l1 = newE [] [⟨p4, x⟩]) (hl2 : setE l1 p6 y = l2) (hq6 : mayQ p6 = true) (hh6 : hasE l1 p6 = false) (hs1 : Sorted l1) (hs2 : Sorted l2) (hn1 : l1.length = 1) (hn2 : l2.length = 2)
    (hf1 : findQ l1 a = none) (hf2 : findQ l2 a = some e2) (hv1 : e1 = noE) (hv2 : e2.v = y) (w : World) :
    Calls Try.prog 4 #[.agg (eA a0), .int .i64 x, .int .i64 y] w fun r w' => r = .returned (.bool true) ∧ Below w.heap.size w w' := by
  have HB := Aside0.mk (Below.refl w.heap.size w)
  have HA0 := Aside0.mk ha0
  have HA := Aside0.mk ha
  have HFM := Aside0.mk hf
  have HGA := Aside0.mk (show ∀ w, Calls Try.prog 17 #[.agg (eA a0)] w fun e w' => e = .returned (.agg (eA a)) ∧ Below w.heap.size w w' by rw [← hga]; exact fun w => ref04_Good a0 ha0 w)
  have HP4 := Aside0.mk hp4
  have HP6 := Aside0.mk hp6
  have HE1 := Aside0.mk he1
  have HE2 := Aside0.mk he2
  have HM4 := Aside0.mk hm4
  have HM6 := Aside0.mk hm6
  have HN4 := Aside0.mk (new_one p4 hp4 x l1 hl1)
  have HS6 := Aside0.mk (fun T base st sv w ht hb0 => set_shp T base st sv l1 p6 hp6 y w ht hs1 (by rw [hn1]; decide) hq6 hh6 hb0 l2 hl2)
  have HN2 := Aside0.mk hn2
  have HBL := Aside0.mk (show blen l1.length ≤ 1 by rw [hn1]; exact blen_le 1)
  have HF1 := Aside0.mk (show ∀ (T base : Nat) (st : Int) (v : Value) (w : World), Tb w T base st v l1 → 0 ≤ st ∧ st ≤ 100000000 → Calls Try.prog 20 #[.pointer (some ⟨T, 0, none⟩), .agg (eA a)] w fun r w' => ∃ m : Nat, r = .returned (.tuple #[.agg (eE e1), .bool false]) ∧ m ≤ 129 * (blen l1.length + 1) ∧ Ticks T 1 w w' (st + (m : Int)) from fun T base st v w ht hst => (table_Find T base st v l1 a ha w ht hs1 (by rw [hn1]; decide) hst).mono (fun r w' h => by rw [hf1] at h; rw [hv1]; exact h))
  have HF2 := Aside0.mk (show ∀ (T base : Nat) (st : Int) (v : Value) (w : World), Tb w T base st v l2 → 0 ≤ st ∧ st ≤ 100000000 → Calls Try.prog 20 #[.pointer (some ⟨T, 0, none⟩), .agg (eA a)] w fun r w' => ∃ m : Nat, r = .returned (.tuple #[.agg (eE e2), .bool true]) ∧ m ≤ 129 * (blen l2.length + 1) ∧ Ticks T 1 w w' (st + (m : Int)) from fun T base st v w ht hst => (table_Find T base st v l2 a ha w ht hs2 (by rw [hn2]; decide) hst).mono (fun r w' h => by rw [hf2] at h; exact h))
  have HV1 := Aside0.mk hv1
  have HV2 := Aside0.mk hv2
  clear ha0 ha hga hf hp4 hp6 he1 he2 hm4 hm6 hl1 hl2 hq6 hh6 hs1 hs2 hn1 hn2 hf1 hf2 hv1 hv2
  go_enter Try.func4, Try.ntmps4
  go_wp2_with (first
    | ((with_reducible refine gate_dst (N := 3) rfl ?_); refine box_event ?hg (N := 3) ?hd (cs := eA a0) (t := 34) ?hr ?_; (case hd => rfl); (case hg => rfl); (case hr => first | (go_simp; done) | (go_simp; rfl)); intro g3 hg w1 hbox hb; have H3 := Aside0.mk hbox; have HG3 := Aside0.mk (show w.heap.size ≤ g3 by rw [hg]; exact HB.out.size); replace HB := Aside0.mk (below_step HB.out hb); clear hb hg hbox)
    | ((with_reducible refine gate_dst (N := 12) rfl ?_); refine wpList_load_row rfl 34 (.tmp 3) rfl g3 rfl 34 (eA a0) (0, 0) _ H3.out Try.underlying34 rfl (infoE HA0.out) ?_)
    | (go_at_call 17; refine (HGA.out _).mono ?_; rintro r w2 ⟨rfl, hb⟩; replace H3 := Aside0.mk (blk_below H3.out hb); replace HB := Aside0.mk (below_step HB.out hb); clear hb)
    | ((with_reducible refine gate_store (t := 34) (p := 3) rfl ?_); refine wpList_store_row rfl 34 (.tmp 3) (.tmp 13) rfl g3 (eA a) rfl rfl 34 (eA a0) H3.out (infoE HA.out) ((eA_size HA0.out).trans (eA_size HA.out).symm) (eA_one _) ?_; replace H3 := Aside0.mk (row_new (cells := eA a) H3.out); replace HB := Aside0.mk (below_row HB.out HG3.out (eA a)); generalize w2.setRow g3 (eA a) = w3 at H3 HB ⊢)
    | ((with_reducible refine gate_dst (N := 14) rfl ?_); refine wp_build_fam rfl (.const (.int .i64 4)) 4 rfl rfl ?_)
    | (go_at_call 19; have CC := HM4; clear HM4; refine (CC.out _).mono ?_; rintro r w4 ⟨rfl, hb⟩; replace H3 := Aside0.mk (blk_below H3.out hb); replace HB := Aside0.mk (below_step HB.out hb); clear hb CC)
    | ((with_reducible refine gate_dst (N := 17) rfl ?_); refine wp_build_ef rfl (.tmp 15) (.tmp 16) p4 x rfl rfl rfl HP4.out ?_)
    | ((with_reducible refine gate_dst (N := 18) rfl ?_); refine wp_lit_one rfl (N := 18) rfl (.tmp 17) rfl ⟨p4, x⟩ HP4.out rfl ?_; intro vb w5 hvb hrd hb; replace H3 := Aside0.mk (blk_below H3.out hb); replace HB := Aside0.mk (below_step HB.out hb); have HVB := Aside0.mk hvb; have HRD := Aside0.mk hrd; clear hb hvb hrd)
    | (go_at_call 18; refine (HN4.out _ vb HVB.out HRD.out).mono ?_; rintro r w6 ⟨rfl, ⟨sv, ht⟩, hb⟩; have HT := Aside0.mk ht; have HL := Aside0.mk HB.out.size; have H3T := Aside0.mk (show g3 ≠ w5.heap.size by have := (Array.getElem?_eq_some_iff.1 H3.out).1; omega); replace H3 := Aside0.mk (blk_below H3.out hb); replace HB := Aside0.mk (below_step HB.out hb); generalize w5.heap.size = T at HT HL H3T ⊢; clear hb ht)
    | ((with_reducible refine gate_dst (N := 24) rfl ?_); refine wpList_load_row rfl 34 (.tmp 3) rfl g3 rfl 34 (eA a) (0, 0) _ H3.out Try.underlying34 rfl (infoE HA.out) ?_)
    | (go_at_call 20; have CC := HF1; clear HF1; refine (CC.out T _ 0 sv _ HT.out (by decide)).mono ?_; rintro r w7 ⟨m, rfl, hm, htk⟩; rw [Int.zero_add] at htk; replace H3 := Aside0.mk (ticks_blk htk H3.out H3T.out); replace HT := Aside0.mk (tb_ticks HT.out htk); replace HB := Aside0.mk (ticks_new HB.out htk HL.out (Nat.le_refl _)); have HM := Aside0.mk (show (0 : Int) ≤ (m : Int) ∧ (m : Int) ≤ 100000000 by have := HBL.out; omega); clear hm htk CC)
    | ((with_reducible refine gate_dst (N := 8) rfl ?_); refine box_event ?hg (N := 8) ?hd (cs := eE noE) (t := 42) ?hr ?_; (case hd => rfl); (case hg => rfl); (case hr => first | (go_simp; done) | (go_simp; rfl)); intro g8 hg w8 hbox hb; have H8 := Aside0.mk hbox; have HG8 := Aside0.mk (show w.heap.size ≤ g8 by rw [hg]; exact HB.out.size); have H38 := Aside0.mk (show g3 ≠ g8 by have := (Array.getElem?_eq_some_iff.1 H3.out).1; omega); have HT8 := Aside0.mk (show g8 ≠ T by have := (Array.getElem?_eq_some_iff.1 HT.out.blk).1; omega); have HO8 := Aside0.mk (own_fresh HT.out.row (g := g8) (by omega)); replace HT := Aside0.mk (tb_below HT.out hb); replace H3 := Aside0.mk (blk_below H3.out hb); replace HB := Aside0.mk (below_step HB.out hb); clear hb hg hbox)
    | ((with_reducible refine gate_store (t := 42) (p := 8) rfl ?_); refine wpList_store_row rfl 42 (.tmp 8) (.tmp 26) rfl g8 (eE e1) rfl rfl 42 (eE noE) H8.out (infoEE HE1.out) ((eE_size ok_noE).trans (eE_size HE1.out).symm) (eE_one _) ?_; replace HT := Aside0.mk (tb_row (cells := eE e1) HT.out HT8.out HO8.out); replace H3 := Aside0.mk ((row_far (cells := eE e1) H38.out).trans H3.out); replace H8 := Aside0.mk (row_new (cells := eE e1) H8.out); replace HB := Aside0.mk (below_row HB.out HG8.out (eE e1)); generalize w8.setRow g8 (eE e1) = w9 at H3 H8 HB HT ⊢; have c30 := fam_cell H3.out; rw [HFM.out] at c30; skip)
    | ((with_reducible refine gate_dst (N := 43) rfl ?_); refine wp_build_fam rfl (.const (.int .i64 6)) 6 rfl rfl ?_)
    | (go_at_call 19; refine (HM6.out _).mono ?_; rintro r w10 ⟨rfl, hb⟩; replace HT := Aside0.mk (tb_below HT.out hb); replace H8 := Aside0.mk (blk_below H8.out hb); replace H3 := Aside0.mk (blk_below H3.out hb); replace HB := Aside0.mk (below_step HB.out hb); clear hb c30)
    | (go_at_call 21; refine (HS6.out T _ _ sv _ HT.out (Nat.le_of_lt (Array.getElem?_eq_some_iff.1 HT.out.blk).1)).mono ?_; rintro r w11 ⟨rfl, ⟨sv2, ht2⟩, hch, hsh⟩; replace HB := Aside0.mk (HB.out.trans ((chg_base hch (Nat.le_refl _) (Nat.le_of_lt (Array.getElem?_eq_some_iff.1 HT.out.blk).1)).mono HL.out)); obtain ⟨cs8, hc8, hz8⟩ := hsh g8 _ _ HT8.out HO8.out H8.out; replace H8 := Aside0.mk hc8; have HZ8 := Aside0.mk hz8; replace H3 := Aside0.mk (hch.block g3 _ H3T.out H3.out (.inr (fun cs fr e => by cases e))); replace HT := Aside0.mk ht2; clear ht2 hch hsh hc8 hz8)
    | ((with_reducible refine gate_dst (N := 49) rfl ?_); refine wpList_load_row rfl 34 (.tmp 3) rfl g3 rfl 34 (eA a) (0, 0) _ H3.out Try.underlying34 rfl (infoE HA.out) ?_)
    | (go_at_call 20; refine (HF2.out T _ _ sv2 _ HT.out HM.out).mono ?_; rintro r w12 ⟨m2, rfl, hm, htk⟩; replace H3 := Aside0.mk (ticks_blk htk H3.out H3T.out); replace H8 := Aside0.mk (ticks_blk htk H8.out HT8.out); replace HT := Aside0.mk (tb_ticks HT.out htk); replace HB := Aside0.mk (ticks_new HB.out htk HL.out (Nat.le_refl _)); obtain ⟨A2, cap2, G2, hsv, _, _⟩ := rd_of_row HT.out.row HT.out.ok 50 (fun g n cap i w hi => idx_en g n cap i w hi) 0; have HTB := Aside0.mk (show w12.heap[T]? = some (.cells #[.slice A2 l2.length cap2, .int .i64 ((m : Int) + (m2 : Int))] 90 (0, 0)) by rw [← hsv]; exact HT.out.blk); clear hm htk hsv)
    | ((with_reducible refine gate_store (t := 42) (p := 8) rfl ?_); refine wpList_store_row rfl 42 (.tmp 8) (.tmp 51) rfl g8 (eE e2) rfl rfl 42 cs8 H8.out (infoEE HE2.out) (HZ8.out.trans ((eE_size HE1.out).trans (eE_size HE2.out).symm)) (eE_one _) ?_; replace H3 := Aside0.mk ((row_far (cells := eE e2) H38.out).trans H3.out); replace H8 := Aside0.mk (row_new (cells := eE e2) H8.out); replace HB := Aside0.mk (below_row HB.out HG8.out (eE e2)); replace HTB := Aside0.mk ((row_far (cells := eE e2) (Ne.symm HT8.out)).trans HTB.out); clear HT HO8; generalize w12.setRow g8 (eE e2) = w13 at H3 H8 HB HTB ⊢; have c30 := fam_cell H3.out; rw [HFM.out] at c30; have c8 := val_cell HE2.out H8.out; rw [HV2.out] at c8)
    | (go_at_call 22; refine (len_blk T _ _ _ _ HTB.out).mono ?_; rintro r w14 ⟨rfl, hb⟩; rw [HN2.out]; replace HB := Aside0.mk (below_step HB.out hb); clear hb c30 c8)
    | (go_at_call 23; refine (law_lives _).mono ?_; rintro r w15 ⟨rfl, hb⟩; replace HB := Aside0.mk (below_step HB.out hb); clear hb))
  go_ret
  exact ⟨rfl, HB.out⟩

/-! ### the plain law -/
def pZ (f : Int) : Pf := ⟨⟨f, zeros16⟩, 0⟩
theorem mask_4 : maskP ⟨4, zeros16⟩ 0 = pZ 4 := by kernel_rfl
theorem mask_6 : maskP ⟨6, zeros16⟩ 0 = pZ 6 := by kernel_rfl
theorem may_4 : mayQ (pZ 4) = true := by kernel_rfl
theorem may_6 : mayQ (pZ 6) = true := by kernel_rfl
theorem cmp_46 : cmpP (pZ 4) (pZ 6) = -1 := by kernel_rfl
theorem ok_pZ (f : Int) : (pZ f).a.ok := ok_zeros f
theorem hasB_pZ (f : Int) (a : Ad) : hasB (pZ f) a = decide (f = a.fam) := by
  unfold hasB pZ
  simp
theorem new_pZ (x : Int) : newE [] [⟨pZ 4, x⟩] = [⟨pZ 4, x⟩] := by
  unfold newE
  rw [List.foldl_cons, List.foldl_nil]
  unfold setIf
  rw [if_pos (show mayQ (⟨pZ 4, x⟩ : En).p = true from may_4)]
  unfold setE ltE gtE
  rw [List.filter_nil, List.filter_nil, List.nil_append]
theorem set_pZ (x y : Int) : setE [⟨pZ 4, x⟩] (pZ 6) y = [⟨pZ 4, x⟩, ⟨pZ 6, y⟩] := by
  unfold setE ltE gtE
  rw [List.filter_cons, List.filter_cons]
  simp only [cmp_46]
  rfl
theorem has_pZ (x : Int) : hasE [⟨pZ 4, x⟩] (pZ 6) = false := by
  unfold hasE
  rw [List.any_eq_false]
  intro e he
  rw [List.mem_singleton] at he
  rw [he, decide_eq_true_eq]
  intro h
  have h2 : (4 : Int) = 6 := congrArg (fun p : Pf => p.a.fam) h
  exact absurd h2 (by decide)
theorem fine_1 (x : Int) : Fine [⟨pZ 4, x⟩] 1 := by
  refine ⟨fun e he => ?_, List.pairwise_singleton _ _, fun e he => ?_, Nat.le_refl _⟩
  · rw [List.mem_singleton] at he; rw [he]; exact ok_pZ 4
  · rw [List.mem_singleton] at he; rw [he]; rw [← may_same (ok_pZ 4)]; exact may_4
theorem fine_2 (x y : Int) : Fine [⟨pZ 4, x⟩, ⟨pZ 6, y⟩] 2 := by
  refine ⟨fun e he => ?_, ?_, fun e he => ?_, Nat.le_refl _⟩
  · rcases List.mem_cons.1 he with rfl | he
    · exact ok_pZ 4
    · rw [List.mem_singleton] at he; rw [he]; exact ok_pZ 6
  · refine List.pairwise_cons.2 ⟨fun e he => ?_, List.pairwise_singleton _ _⟩
    rw [List.mem_singleton] at he
    rw [he]
    show cmpP (pZ 4) (pZ 6) < 0
    rw [cmp_46]
    decide
  · rcases List.mem_cons.1 he with rfl | he
    · rw [← may_same (ok_pZ 4)]; exact may_4
    · rw [List.mem_singleton] at he; rw [he]; rw [← may_same (ok_pZ 6)]; exact may_6
theorem find_is {l : List En} {n : Nat} (h : Fine l n) {a : Ad} (ha : a.ok) (hma : mayA a = true) (h0 : a.fam ≠ 0) {r : Option En} (hr : Best l a r) : findQ l a = r :=
  best_one h.ok h.sorted h.may ha hma h0 (findQ_best h.ok h.may ha hma h0) hr
theorem goodA_fam (a : Ad) : (goodA a).fam = 4 ∨ (goodA a).fam = 6 := by
  unfold goodA
  split
  · exact .inl rfl
  · exact .inr rfl
theorem law_Fams (a0 : Ad) (ha0 : a0.ok) (x y : Int) (w : World) :
    Calls Try.prog 4 #[.agg (eA a0), .int .i64 x, .int .i64 y] w fun r w' => r = .returned (.bool true) ∧ Below w.heap.size w w' := by
  have ha := ok_goodA ha0
  obtain ⟨hma, h0⟩ := goodA_may ha0
  have hm4 : ∀ w, Calls Try.prog 19 #[.agg (eA ⟨4, zeros16⟩), .int .i64 0] w fun e w' => e = .returned (.agg (eP (pZ 4))) ∧ Below w.heap.size w w' := by
    rw [← mask_4]
    exact fun w => ref05_Mask ⟨4, zeros16⟩ (ok_zeros 4) 0 w
  have hm6 : ∀ w, Calls Try.prog 19 #[.agg (eA ⟨6, zeros16⟩), .int .i64 0] w fun e w' => e = .returned (.agg (eP (pZ 6))) ∧ Below w.heap.size w w' := by
    rw [← mask_6]
    exact fun w => ref05_Mask ⟨6, zeros16⟩ (ok_zeros 6) 0 w
  rcases goodA_fam a0 with hf | hf
  · have hb4 : hasB (pZ 4) (goodA a0) = true := by rw [hasB_pZ, hf]; rfl
    refine fams_4 a0 (goodA a0) ha0 ha rfl hf x y (pZ 4) (pZ 6) (ok_pZ 4) (ok_pZ 6) [⟨pZ 4, x⟩] [⟨pZ 4, x⟩, ⟨pZ 6, y⟩] ⟨pZ 4, x⟩ ⟨pZ 4, x⟩ (ok_pZ 4) (ok_pZ 4) hm4 hm6 (new_pZ x).symm (set_pZ x y) may_6 (has_pZ x) (fine_1 x).sorted (fine_2 x y).sorted rfl rfl
      (find_is (fine_1 x) ha hma h0 ⟨List.mem_singleton_self _, hb4, fun e he _ => ?_⟩) (find_is (fine_2 x y) ha hma h0 ⟨List.mem_cons_self .., hb4, fun e he _ => ?_⟩) rfl rfl w
    · rw [List.mem_singleton] at he; rw [he]; exact Int.le_refl _
    · rcases List.mem_cons.1 he with rfl | he
      · exact Int.le_refl _
      · rw [List.mem_singleton] at he; rw [he]; exact Int.le_refl _
  · have hb4 : hasB (pZ 4) (goodA a0) = false := by rw [hasB_pZ, hf]; rfl
    have hb6 : hasB (pZ 6) (goodA a0) = true := by rw [hasB_pZ, hf]; rfl
    refine fams_6 a0 (goodA a0) ha0 ha rfl hf x y (pZ 4) (pZ 6) (ok_pZ 4) (ok_pZ 6) [⟨pZ 4, x⟩] [⟨pZ 4, x⟩, ⟨pZ 6, y⟩] noE ⟨pZ 6, y⟩ ok_noE (ok_pZ 6) hm4 hm6 (new_pZ x).symm (set_pZ x y) may_6 (has_pZ x) (fine_1 x).sorted (fine_2 x y).sorted rfl rfl
      (find_is (fine_1 x) ha hma h0 (r := none) (fun e he => ?_)) (find_is (fine_2 x y) ha hma h0 ⟨List.mem_cons_of_mem _ (List.mem_singleton_self _), hb6, fun e he _ => ?_⟩) rfl rfl w
    · rw [List.mem_singleton] at he; rw [he]; exact hb4
    · rcases List.mem_cons.1 he with rfl | he
      · exact Int.le_refl _
      · rw [List.mem_singleton] at he; rw [he]; exact Int.le_refl _
end Go.Proofs.Ythjhbhgfckaklaa.P
