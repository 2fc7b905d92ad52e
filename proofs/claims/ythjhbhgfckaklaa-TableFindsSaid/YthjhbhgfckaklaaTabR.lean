/-
  An address's entry is the document's (the walk).
-/
import Derived.Test.YthjhbhgfckaklaaTabQ
import Derived.Test.YthjhbhgfckaklaaTabP
namespace Go.Proofs.Ythjhbhgfckaklaa.P
open Go.RowKit Go.Proofs.YthjhbhgfckaklaaW.PrintWords Go.Proofs.YthjhbhgfckaklaaW.PrintLast Go.Proofs.YthjhbhgfckaklaaW.PrintMore
set_option linter.unusedVariables false
set_option linter.unusedSimpArgs false
theorem eq_en (d : Nat) (x y : En) (hx : x.p.a.ok) (hy : y.p.a.ok) (w : World) : (Op.equalIn (d + 5) 42 (.agg (eE x)) (.agg (eE y))).run Try.prog w = .ok (decide (x.p = y.p) && (x.v == y.v)) w := by
  have p1 := part_cut (t := 39) (n := 0) [] (lP x.p) [.int .i64 x.v] w Try.underlying39 rfl (infoPf_len hx) rfl
  have p2 := part_cut (t := 39) (n := 0) [] (lP y.p) [.int .i64 y.v] w Try.underlying39 rfl (infoPf_len hy) rfl
  rw [List.nil_append] at p1 p2
  have k1 : (eE x)[18]? = some (.int .i64 x.v) := by unfold eE; rw [List.getElem?_toArray]; exact lE_v hx
  have k2 : (eE y)[18]? = some (.int .i64 y.v) := by unfold eE; rw [List.getElem?_toArray]; exact lE_v hy
  refine eqA_of (P := Try.prog) Try.underlying42 (by kernel_rfl) ?_
  refine eqf_cons (by kernel_rfl) p1 p2 (eq_pf d x.p y.p hx hy w) ?_
  exact eqf_last (by kernel_rfl) (run_part_plain (P := Try.prog) w plain_int k1) (run_part_plain (P := Try.prog) w plain_int k2) (run_equalIn_int (P := Try.prog) w (d + 3) 3 .i64 .i64 x.v y.v Try.underlying3)
theorem built_none : Try.prog.built 34 [] = some (eA noA) := by kernel_rfl
theorem built_noE : Try.prog.built 42 [] = some (eE noE) := by kernel_rfl
section
variable {P : Program} {ops : Array Oper} {rest : List Oper} {o : Oper} {a : Act} {w : World} {Q : Exit → Act → World → Prop}
/-- An operation that is wanted. -/
theorem wp_when (hw : Region.wanted o (yielded ops a.tmps) = true) (h : ∀ K : Act → World → Prop, (∀ a w, wpList P ops Q rest a w → K a w) → o.wp P a w K Q) : wpList P ops Q (o :: rest) a w := by
  unfold wpList
  rw [if_pos hw]
  exact .inl (h _ (fun _ _ h => h))
theorem wp_when_mid (hw : Region.wanted o (yielded ops a.tmps) = true) (ty : TypeId) (x : Operand) (ho : o.op = .load ty x) (b f : Nat) (hx : a.eval x = .pointer (some ⟨b, f, none⟩)) (cs : List Value) (d : TypeDesc) (hc : w.rangeAt b f cs)
    (hu : P.underlying ty = some d) (hd : d.isRow = true) (hi : (P.info? ty).map (·.size) = some cs.length) (h : wpList P ops Q rest (a.put o.dst (.agg cs.toArray)) w) : wpList P ops Q (o :: rest) a w :=
  wp_when hw fun K hK => wp_load_mid ty x ho b f hx cs d hc hu hd hi (hK _ _ h)
theorem wp_when_run (hw : Region.wanted o (yielded ops a.tmps) = true) {v : Value} (hrun : (execOp a.eval o).run P w = .ok (.value v) w) (h : wpList P ops Q rest (a.put o.dst v) w) : wpList P ops Q (o :: rest) a w :=
  wp_when hw fun K hK => wp_value_run hrun (hK _ _ h)
theorem run_built {t : TypeId} {cs : Array Value} (ho : o.op = .build t #[]) (hb : P.built t [] = some cs) : (execOp a.eval o).run P w = .ok (.value (.agg cs)) w := by
  have hb' : P.built t ((#[] : Array (Nat × Operand)).map fun (i, y) => (i, a.eval y)).toList = some cs := by
    simp only [List.map_toArray, List.map_nil]
    exact hb
  unfold execOp
  simp only [ho, Sem.run_bind, run_build w _ _ _ hb', Result.andThen_ok]
  simp
theorem wp_neq_same (hw : Region.wanted o (yielded ops a.tmps) = true) (t t' : TypeId) (x y : Operand) (xs : Array Value) (ho : o.op = .binOp .neq t x y t') (hx : a.eval x = .agg xs) (hy : a.eval y = .agg xs) (hm : P.eqGuardType P.depth t = false) (he : (Op.equalIn 10000 t (.agg xs) (.agg xs)).run P w = .ok true w)
    (h : wpList P ops Q rest (a.put o.dst (.bool false)) w) : wpList P ops Q (o :: rest) a w :=
  wp_when_run hw (run_neq_op (r := true) ho hx hy hm he) h
end
theorem same_en (x : En) (hx : x.p.a.ok) (w : World) : (Op.equalIn 10000 42 (.agg (eE x)) (.agg (eE x))).run Try.prog w = .ok true w := by
  rw [eq_en 9995 x x hx hx w, decide_eq_true rfl, beq_self_eq_true]
  rfl
theorem same_pf (p : Pf) (hp : p.a.ok) (w : World) : (Op.equalIn 10000 39 (.agg (eP p)) (.agg (eP p))).run Try.prog w = .ok true w := by
  rw [eq_pf 9996 p p hp hp w, decide_eq_true rfl]
theorem infoAd_len {a : Ad} (h : a.ok) : (Try.prog.info? 34).map (·.size) = some (lA a).length := by rw [lA_len h]; exact infoA
theorem find_noA (l : List En) : findQ l noA = none := by unfold findQ; rw [if_pos (show noA.fam = 0 from rfl)]
theorem find_st (m k st : Nat) (ln : Nat) (h : m ≤ 129 * (blen ln + 1)) (hl : ln ≤ 40) (hs : st ≤ 10000 * k) : st + m ≤ 10000 * (k + 1) := by
  have := blen_le ln
  omega
set_option maxHeartbeats 4000000 in
set_option maxRecDepth 100000 in
theorem law_Finds (A : Option Addr) (n cap : Nat) (L : List De) (A2 : Option Addr) (n2 cap2 : Nat) (L2 : List Ad) (w : World) (hrd : RdD w A n cap L) (hra : RdA w A2 n2 cap2 L2) :
    Calls Try.prog 6 #[.slice A n cap, .slice A2 n2 cap2] w fun r w' => r = .returned (.bool true) ∧ Below w.heap.size w w' := by
  have HRA := Aside0.mk hra
  have HL := Aside0.mk (show ∀ d ∈ L.take 40, d.p.a.ok from fun x hx => by
    obtain ⟨i, hi⟩ := List.getElem?_of_mem (List.mem_of_mem_take hx)
    obtain ⟨_, _, _, _, h⟩ := hrd.at_ i x hi
    exact h)
  have HF := Aside0.mk (fine_play (L.take 40) HL.out)
  have HLK := Aside0.mk (show (playE (L.take 40)).length ≤ 40 by
    have h1 := HF.out.len
    have h2 : (L.take 40).length ≤ 40 := by rw [List.length_take]; exact Nat.min_le_left _ _
    omega)
  have HPL := Aside0.mk (law_play A n cap L w hrd)
  obtain ⟨l, hl⟩ : ∃ l, playE (L.take 40) = l := ⟨_, rfl⟩
  rw [hl] at HF HLK HPL
  have HFN := Aside0.mk (show ∀ (T base : Nat) (st : Nat) (v : Value) (w : World), Tb w T base (st : Int) v l → st ≤ 1000000 → Calls Try.prog 20 #[.pointer (some ⟨T, 0, none⟩), .agg (eA noA)] w fun r w' => ∃ m : Nat, r = .returned (.tuple #[.agg (eE noE), .bool false]) ∧ m ≤ 129 * (blen l.length + 1) ∧ Ticks T 1 w w' ((st + m : Nat) : Int) from fun T base st v w ht hst => (table_Find T base st v l noA (ok_zeros 0) w ht HF.out.sorted (Nat.le_trans HLK.out (by decide)) (by omega)).mono (fun r w' h => by rw [find_noA] at h; obtain ⟨m, h1, h2, h3⟩ := h; exact ⟨m, h1, h2, by rw [Int.natCast_add]; exact h3⟩))
  clear hra hrd hl HL
  go_enter Try.func6, Try.ntmps6
  go_wp2_with (first
    | (go_at_call 27; refine HPL.out.mono ?_; rintro r w2 ⟨u, rfl, ⟨sv, ht⟩, ho, hb⟩; have HT := Aside0.mk ht; have HO := Aside0.mk ho; have HB := Aside0.mk hb; clear hb ht ho)
    | ((with_reducible refine gate_dst (N := 26) rfl ?_); refine Kd.event_run (v := .agg (eA noA)) rfl (run_built rfl built_none) ?_)
    | (go_at_call 20; refine (HFN.out _ _ 0 sv _ HT.out (by decide)).mono ?_; rintro r w3 ⟨m, rfl, hm, htk⟩; rw [Nat.zero_add] at htk; have HM := Aside0.mk hm; replace HO := Aside0.mk (ow_ticks HT.out HO.out htk); replace HT := Aside0.mk (tb_ticks HT.out htk); replace HB := Aside0.mk (ticks_new HB.out htk (Nat.le_refl _) (Nat.le_refl _)); have HQ := Aside0.mk (Below.refl w3.heap.size w3); clear hm htk)
    | ((with_reducible refine gate_dst (N := 8) rfl ?_); refine box_event ?hg (N := 8) ?hd (cs := eE noE) (t := 42) ?hr ?_; (case hd => rfl); (case hg => rfl); (case hr => first | (go_simp; done) | (go_simp; rfl)); intro g8 hg w4 hbox hb; have Hg8 := Aside0.mk hbox; have HGg8 := Aside0.mk (Nat.le_trans HQ.out.size (Nat.le_of_eq hg.symm));  replace HQ := Aside0.mk (below_step HQ.out hb); clear hb hg hbox)
    | ((with_reducible refine gate_store (t := 42) (p := 8) rfl ?_); refine wpList_store_row rfl 42 (.tmp 8) (.tmp 28) rfl g8 (eE noE) rfl rfl 42 (eE noE) Hg8.out (infoEE ok_noE) (rfl) (eE_one _) ?_; replace Hg8 := Aside0.mk (row_new (cells := eE noE) Hg8.out); replace HQ := Aside0.mk (below_row HQ.out HGg8.out (eE noE)); generalize w4.setRow g8 (eE noE) = w5 at Hg8 HQ ⊢; skip)
    | ((with_reducible refine gate_dst (N := 32) rfl ?_); refine wp_when_mid (by kernel_rfl) 42 (.tmp 8) rfl g8 0 rfl (lE noE) _ (range_row (xs := lE noE) Hg8.out) Try.underlying42 rfl (infoEn_len ok_noE) ?_)
    | ((with_reducible refine gate_dst (N := 33) rfl ?_); refine wp_when_run (by kernel_rfl) (v := .agg (eE noE)) (run_built rfl built_noE) ?_)
    | ((with_reducible refine gate_dst (N := 34) rfl ?_); refine wp_neq_same (by kernel_rfl) 42 42 (.tmp 32) (.tmp 33) (eE noE) rfl rfl rfl (by kernel_rfl) (same_en noE ok_noE _) ?_))
  have HM1 := Aside0.mk (show m ≤ 10000 by have := find_st m 0 0 l.length HM.out HLK.out (Nat.zero_le _); omega)
  have HT0 := Aside0.mk (tb_below HT.out HQ.out)
  have HO0 := Aside0.mk (own_below HO.out HQ.out)
  have HB0 := Aside0.mk (HB.out.trans (HQ.out.mono HB.out.size))
  clear HT HO HB HQ HPL HFN
  go_loopw [10] (fun v10 wr => ∃ k : Nat, v10 = .int .i64 (k : Int) ∧ Aside0 (k ≤ 10 ∧ k ≤ L2.length) ∧ Aside0 (∃ st : Nat, st ≤ 10000 * (k + 1) ∧ Tb wr w.heap.size w.heap.size (st : Int) sv l) ∧ Aside0 (Ow wr u l) ∧ Aside0 (Below w.heap.size w wr)) (fun v10 _ => 11 - (intOf v10).toNat)
  case atStart => exact ⟨0, rfl, ⟨Nat.zero_le _, Nat.zero_le _⟩, ⟨m, HM1.out, HT0.out⟩, HO0, HB0⟩
  case round =>
    clear HT0 HO0 HB0 HM HM1 Hg8 HGg8
    obtain ⟨k, rfl, HK, HTS, HO, HB⟩ := hrel
    have HLN := Aside0.mk HRA.out.len
    by_cases hlt : k < L2.length
    · have c0 : decide ((k : Int) < (n2 : Int)) = true := decide_eq_true (by have := HLN.out; omega)
      have c0n : decide (k < n2) = true := decide_eq_true (by have := HLN.out; omega)
      by_cases h10 : k < 10
      · have c1n : decide (k < 10) = true := decide_eq_true h10
        have c1 : decide ((k : Int) < 10) = true := decide_eq_true (by omega)
        obtain ⟨a, hd⟩ : ∃ a, L2[k]? = some a := ⟨L2[k], List.getElem?_eq_getElem hlt⟩
        obtain ⟨G, o, hidx, hrg, haok⟩ := HRA.out.at_ k a hd
        have HRG := Aside0.mk (range_below hrg HB.out)
        have HAO := Aside0.mk haok
        obtain ⟨st, hst, ht⟩ := HTS.out
        have HT := Aside0.mk ht
        have HST := Aside0.mk hst
        have HQ := Aside0.mk (Below.refl wr.heap.size wr)
        obtain ⟨b, hgb⟩ : ∃ b, goodA a = b := ⟨_, rfl⟩
        have HBO := Aside0.mk (show b.ok by rw [← hgb]; exact ok_goodA haok)
        have HGA := Aside0.mk (show ∀ w, Calls Try.prog 17 #[.agg (eA a)] w fun e w' => e = .returned (.agg (eA b)) ∧ Below w.heap.size w w' by rw [← hgb]; exact fun w => ref04_Good a haok w)
        have hsame : findQ l b = bestE l b l.length := by
          rw [← hgb]
          exact findQ_bestE HF.out.ok HF.out.sorted HF.out.may (ok_goodA haok) (goodA_may haok).1 (goodA_may haok).2
        obtain ⟨e, he⟩ : ∃ e, (findQ l b).getD noE = e := ⟨_, rfl⟩
        obtain ⟨is, his⟩ : ∃ is, (findQ l b).isSome = is := ⟨_, rfl⟩
        have HEO := Aside0.mk (show e.p.a.ok by rw [← he]; exact ok_findQ HF.out.ok b)
        have HFD := Aside0.mk (show ∀ (T base : Nat) (st : Nat) (v : Value) (w : World), Tb w T base (st : Int) v l → st ≤ 1000000 → Calls Try.prog 20 #[.pointer (some ⟨T, 0, none⟩), .agg (eA b)] w fun r w' => ∃ m : Nat, r = .returned (.tuple #[.agg (eE e), .bool is]) ∧ m ≤ 129 * (blen l.length + 1) ∧ Ticks T 1 w w' ((st + m : Nat) : Int) from fun T base st v w ht hst => (table_Find T base st v l b HBO.out w ht HF.out.sorted (Nat.le_trans HLK.out (by decide)) (by omega)).mono (fun r w' h => by rw [he, his] at h; obtain ⟨m, h1, h2, h3⟩ := h; exact ⟨m, h1, h2, by rw [Int.natCast_add]; exact h3⟩))
        have HRF := Aside0.mk (show ∀ w, Ow w u l → Calls Try.prog 28 #[u, .agg (eA b)] w fun r w' => r = .returned (.tuple #[.agg (eE e), .bool is]) ∧ Below w.heap.size w w' from fun w ho => (ref_Find u l HF.out.ok (may_nb HF.out) b HBO.out w ho (Nat.le_trans HLK.out (by decide))).mono (fun r w' h => by rw [← hsame, he, his] at h; exact h))
        have E1 := Aside0.mk (wrap_up6 k (by omega))
        clear hd hrg haok hst ht hgb hsame he his HTS
        go_wp2_with (first
          | ((with_reducible refine gate_dst (N := 49) rfl ?_); refine wpList_load_mid rfl 34 (.tmp 48) rfl G o rfl (lA a) _ (HRG.out) Try.underlying34 rfl (infoAd_len HAO.out) ?_)
          | (go_at_call 17; refine (HGA.out _).mono ?_; rintro r w6 ⟨rfl, hb⟩; replace HQ := Aside0.mk (below_step HQ.out hb); clear hb)
          | ((with_reducible refine gate_dst (N := 11) rfl ?_); refine box_event ?hg (N := 11) ?hd (cs := eA noA) (t := 34) ?hr ?_; (case hd => rfl); (case hg => rfl); (case hr => first | (go_simp; done) | (go_simp; rfl)); intro g11 hg w7 hbox hb; have Hg11 := Aside0.mk hbox; have HGg11 := Aside0.mk (Nat.le_trans HQ.out.size (Nat.le_of_eq hg.symm));  replace HQ := Aside0.mk (below_step HQ.out hb); clear hb hg hbox)
          | ((with_reducible refine gate_store (t := 34) (p := 11) rfl ?_); refine wpList_store_row rfl 34 (.tmp 11) (.tmp 50) rfl g11 (eA b) rfl rfl 34 (eA noA) Hg11.out (infoE HBO.out) ((eA_size (ok_zeros 0)).trans (eA_size HBO.out).symm) (eA_one _) ?_; replace Hg11 := Aside0.mk (row_new (cells := eA b) Hg11.out); replace HQ := Aside0.mk (below_row HQ.out HGg11.out (eA b)); generalize w7.setRow g11 (eA b) = w8 at Hg11 HQ ⊢; skip)
          | ((with_reducible refine gate_dst (N := 53) rfl ?_); refine wpList_load_row rfl 34 (.tmp 11) rfl g11 rfl 34 (eA b) (0, 0) _ Hg11.out Try.underlying34 rfl (infoE HBO.out) ?_)
          | (go_at_call 20; have HN11 := Aside0.mk (show g11 ≠ w.heap.size by have h1 := HGg11.out; have h2 := (Array.getElem?_eq_some_iff.1 HT.out.blk).1; omega); refine (HFD.out _ _ st sv _ (tb_below HT.out HQ.out) (by have := HST.out; omega)).mono ?_; rintro r w9 ⟨m2, rfl, hm, htk⟩; have HST2 := Aside0.mk (find_st m2 (k + 1) st l.length hm HLK.out HST.out); replace HO := Aside0.mk (ow_ticks (tb_below HT.out HQ.out) (own_below HO.out HQ.out) htk); replace HT := Aside0.mk (tb_ticks (tb_below HT.out HQ.out) htk); replace HB := Aside0.mk (ticks_new (HB.out.trans (HQ.out.mono HB.out.size)) htk (Nat.le_refl _) (Nat.le_refl _)); replace Hg11 := Aside0.mk (ticks_blk htk Hg11.out HN11.out); replace HQ := Aside0.mk (Below.refl w9.heap.size w9); clear hm htk HST HRG)
          | ((with_reducible refine gate_dst (N := 12) rfl ?_); refine box_event ?hg (N := 12) ?hd (cs := eE noE) (t := 42) ?hr ?_; (case hd => rfl); (case hg => rfl); (case hr => first | (go_simp; done) | (go_simp; rfl)); intro g12 hg w10 hbox hb; have Hg12 := Aside0.mk hbox; have HGg12 := Aside0.mk (Nat.le_trans HQ.out.size (Nat.le_of_eq hg.symm)); have HDg11g12 := Aside0.mk (show g11 ≠ g12 by have := (Array.getElem?_eq_some_iff.1 Hg11.out).1; omega); replace Hg11 := Aside0.mk (blk_below Hg11.out hb); replace HQ := Aside0.mk (below_step HQ.out hb); clear hb hg hbox)
          | ((with_reducible refine gate_store (t := 42) (p := 12) rfl ?_); refine wpList_store_row rfl 42 (.tmp 12) (.tmp 55) rfl g12 (eE e) rfl rfl 42 (eE noE) Hg12.out (infoEE HEO.out) ((eE_size ok_noE).trans (eE_size HEO.out).symm) (eE_one _) ?_; replace Hg11 := Aside0.mk ((row_far (cells := eE e) HDg11g12.out).trans Hg11.out); replace Hg12 := Aside0.mk (row_new (cells := eE e) Hg12.out); replace HQ := Aside0.mk (below_row HQ.out HGg12.out (eE e)); generalize w10.setRow g12 (eE e) = w11 at Hg12 HQ Hg11 ⊢; skip)
          | ((with_reducible refine gate_dst (N := 59) rfl ?_); refine wpList_load_row rfl 34 (.tmp 11) rfl g11 rfl 34 (eA b) (0, 0) _ Hg11.out Try.underlying34 rfl (infoE HBO.out) ?_)
          | (go_at_call 28; refine (HRF.out _ (own_below HO.out HQ.out)).mono ?_; rintro r w12 ⟨rfl, hb⟩; replace Hg12 := Aside0.mk (blk_below Hg12.out hb); replace HQ := Aside0.mk (below_step HQ.out hb); clear hb)
          | ((with_reducible refine gate_dst (N := 14) rfl ?_); refine box_event ?hg (N := 14) ?hd (cs := eE noE) (t := 63) ?hr ?_; (case hd => rfl); (case hg => rfl); (case hr => first | (go_simp; done) | (go_simp; rfl)); intro g14 hg w13 hbox hb; have Hg14 := Aside0.mk hbox; have HGg14 := Aside0.mk (Nat.le_trans HQ.out.size (Nat.le_of_eq hg.symm)); have HDg12g14 := Aside0.mk (show g12 ≠ g14 by have := (Array.getElem?_eq_some_iff.1 Hg12.out).1; omega); replace Hg12 := Aside0.mk (blk_below Hg12.out hb); replace HQ := Aside0.mk (below_step HQ.out hb); clear hb hg hbox)
          | ((with_reducible refine gate_store (t := 63) (p := 14) rfl ?_); refine wpList_store_row rfl 63 (.tmp 14) (.tmp 61) rfl g14 (eE e) rfl rfl 63 (eE noE) Hg14.out (infoEr6 HEO.out) ((eE_size ok_noE).trans (eE_size HEO.out).symm) (eE_one _) ?_; replace Hg12 := Aside0.mk ((row_far (cells := eE e) HDg12g14.out).trans Hg12.out); replace Hg14 := Aside0.mk (row_new (cells := eE e) Hg14.out); replace HQ := Aside0.mk (below_row HQ.out HGg14.out (eE e)); generalize w13.setRow g14 (eE e) = w14 at Hg14 HQ Hg12 ⊢; have c12 := val_cell HEO.out Hg12.out; have c14 := val_cell HEO.out Hg14.out)
          | ((with_reducible refine gate_dst (N := 68) rfl ?_); refine wp_when_mid (by kernel_rfl) 39 (.tmp 67) rfl g12 0 rfl (lP e.p) _ (range_pfx Hg12.out) Try.underlying39 rfl (infoPf_len HEO.out) ?_)
          | ((with_reducible refine gate_dst (N := 70) rfl ?_); refine wp_when_mid (by kernel_rfl) 39 (.tmp 69) rfl g14 0 rfl (lP e.p) _ (range_pfx Hg14.out) Try.underlying39 rfl (infoPf_len HEO.out) ?_)
          | ((with_reducible refine gate_dst (N := 71) rfl ?_); refine wp_neq_same (by kernel_rfl) 39 39 (.tmp 68) (.tmp 70) (eP e.p) rfl rfl rfl (by kernel_rfl) (same_pf e.p HEO.out _) ?_))
        exact ⟨⟨k + 1, congrArg (Value.int .i64) (by omega), ⟨by omega⟩, ⟨st + m2, HST2.out, tb_below HT.out HQ.out⟩, ⟨own_below HO.out HQ.out⟩, ⟨HB.out.trans (HQ.out.mono HB.out.size)⟩⟩, measure_up 11 k _ (by omega) (by omega)⟩
      · have c1n : decide (k < 10) = false := decide_eq_false h10
        have c1 : decide ((k : Int) < 10) = false := decide_eq_false (by omega)
        clear HTS
        go_wp2_with (first
          | (go_at_call 23; refine (law_lives _).mono ?_; rintro r w15 ⟨rfl, hb⟩; replace HB := Aside0.mk (below_step HB.out hb); clear hb))
        all_goals (go_ret; exact ⟨rfl, HB.out⟩)
    · have c0 : decide ((k : Int) < (n2 : Int)) = false := decide_eq_false (by have := HLN.out; omega)
      have c0n : decide (k < n2) = false := decide_eq_false (by have := HLN.out; omega)
      clear HTS
      go_wp2_with (first
        | (go_at_call 23; refine (law_lives _).mono ?_; rintro r w15 ⟨rfl, hb⟩; replace HB := Aside0.mk (below_step HB.out hb); clear hb))
      all_goals (go_ret; exact ⟨rfl, HB.out⟩)
end Go.Proofs.Ythjhbhgfckaklaa.P
