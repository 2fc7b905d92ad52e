/-
  What is found has the address, and no longer prefix of the table has it (the walk).
-/
import Derived.Test.YthjhbhgfckaklaaTabT
import Derived.Test.YthjhbhgfckaklaaTabO
namespace Go.Proofs.Ythjhbhgfckaklaa.P
open Go.RowKit Go.Shelf Go.Proofs.YthjhbhgfckaklaaW.PrintWords Go.Proofs.YthjhbhgfckaklaaW.PrintLast Go.Proofs.YthjhbhgfckaklaaW.PrintMore
set_option linter.unusedVariables false
set_option linter.unusedSimpArgs false
attribute [local go_sem] Oper.semAt_some
theorem in_box {F : Fence} {n : Nat} {P : Program} {ops : Array Oper} {rest : List Oper} {o : Oper} {a : Act} {Q : Exit → Act → World → Prop} {W : World} (hgd : o.guard = none) {N : Tmp} (_hd : o.dst = some N) (ha : ∀ f, o.about P W a.eval = some f → F.fn f) (hnd : ∀ c, o.op ≠ .defer c) {cs : Array Value} {t : TypeId}
    (hrun : (execOp a.eval o).run P W = .ok (.value (.pointer (some ⟨W.heap.size, 0, none⟩))) (W.alloc (.cells cs t (0, 0))))
    (h : ∀ g, g = W.heap.size → ∀ w1, w1.heap[g]? = some (.cells cs t (0, 0)) → Below W.heap.size W w1 → wpListIn F n P ops Q rest (a.put o.dst (.pointer (some ⟨g, 0, none⟩))) w1) : wpListIn F n P ops Q (o :: rest) a W :=
  in_new hgd _hd ha hnd hrun h
/-- What the loop knows of its world. -/
structure Lg (w : World) (g3 g4 g8 g9 : Nat) (b : Ad) (e : En) (is : Bool) (W : World) : Prop where
  b3 : W.heap[g3]? = some (.cells (eA b) 34 (0, 0))
  b4 : W.heap[g4]? = some (.cells #[.bool false] 4 (0, 0))
  b8 : W.heap[g8]? = some (.cells (eE e) 42 (0, 0))
  b9 : W.heap[g9]? = some (.cells #[.bool is] 4 (0, 0))
  bel : Below w.heap.size w W
theorem lg_kept {w : World} {g3 g4 g8 g9 : Nat} {b : Ad} {e : En} {is : Bool} {W W' : World} {row : Option Nat} (h : Lg w g3 g4 g8 g9 b e is W) (hg : W.grownBy W' row) (hr : ∀ r, row = some r → w.heap.size ≤ r ∧ ∃ o : Obj, W.heap[r]? = some o ∧ o.isCells = false) : Lg w g3 g4 g8 g9 b e is W' :=
  ⟨cells_kept h.b3 hg (fun r e => (hr r e).2), cells_kept h.b4 hg (fun r e => (hr r e).2), cells_kept h.b8 hg (fun r e => (hr r e).2), cells_kept h.b9 hg (fun r e => (hr r e).2), h.bel.grown hg h.bel.size (fun k e => (hr k e).1)⟩
theorem lg_below {w : World} {g3 g4 g8 g9 : Nat} {b : Ad} {e : En} {is : Bool} {W W' : World} (h : Lg w g3 g4 g8 g9 b e is W) (hb : Below W.heap.size W W') : Lg w g3 g4 g8 g9 b e is W' :=
  ⟨blk_below h.b3 hb, blk_below h.b4 hb, blk_below h.b8 hb, blk_below h.b9 hb, below_step h.bel hb⟩
theorem keeps_below {W W' : World} (h : Below W.heap.size W W') : KeepsOthers W W' := ⟨h.size, fun k o hk _ => blk_below hk h⟩
theorem blk_cell0 {w : World} {g : Nat} {v : Value} {t : TypeId} (h : w.heap[g]? = some (.cells #[v] t (0, 0))) : w.cell? ⟨g, 0, none⟩ = some v := (show Boxed w g t v from h).cell
theorem blk_froz0 {w : World} {g : Nat} {v : Value} {t : TypeId} (h : w.heap[g]? = some (.cells #[v] t (0, 0))) : w.frozen? ⟨g, 0, none⟩ = false := (show Boxed w g t v from h).frozen
theorem n_cell {w : World} {g : Nat} {e : En} {t : TypeId} (he : e.p.a.ok) (h : w.heap[g]? = some (.cells (eE e) t (0, 0))) : w.cell? ⟨g, 17, none⟩ = some (.int .i64 e.p.n) := by
  have := part_n he (range_row (xs := lE e) h)
  rw [Nat.zero_add] at this
  exact this
theorem attach_val {α : Type} (l : List α) : (l.attach.map fun x => x.1) = l := List.attach_map_subtype_val l
set_option maxHeartbeats 4000000 in
set_option maxRecDepth 100000 in
theorem longest_some (A : Option Addr) (n cap : Nat) (L : List De) (a : Ad) (ha : a.ok) (l : List En) (hl : playE (L.take 40) = l) (b : Ad) (hb : goodA a = b) (e : En) (hq : findQ l b = some e) (he : e.p.a.ok) (w : World) (hrd : RdD w A n cap L) :
    Calls Try.prog 8 #[.slice A n cap, .agg (eA a)] w fun r w' => r = .returned (.bool true) ∧ Below w.heap.size w w' := by
  have HA := Aside0.mk ha
  have HRD := Aside0.mk hrd
  have HB := Aside0.mk (Below.refl w.heap.size w)
  have HF := Aside0.mk (fine_play (L.take 40) (fun x hx => by
    obtain ⟨i, hi⟩ := List.getElem?_of_mem (List.mem_of_mem_take hx)
    obtain ⟨_, _, _, _, h⟩ := hrd.at_ i x hi
    exact h))
  have HLK := Aside0.mk (show (playE (L.take 40)).length ≤ 40 by
    have h1 := HF.out.len
    have h2 : (L.take 40).length ≤ 40 := by rw [List.length_take]; exact Nat.min_le_left _ _
    omega)
  have HPL := Aside0.mk (fun w1 (h : RdD w1 A n cap L) => law_play A n cap L w1 h)
  rw [hl] at HF HLK HPL
  have HLO := Aside0.mk HF.out.ok
  have HNB := Aside0.mk (may_nb HF.out)
  have HBO := Aside0.mk (show b.ok by rw [← hb]; exact ok_goodA ha)
  have HGA := Aside0.mk (show ∀ w, Calls Try.prog 17 #[.agg (eA a)] w fun e w' => e = .returned (.agg (eA b)) ∧ Below w.heap.size w w' by rw [← hb]; exact fun w => ref04_Good a ha w)
  have hbest : Best l b (findQ l b) := findQ_best HF.out.ok HF.out.may HBO.out (by rw [← hb]; exact (goodA_may ha).1) (by rw [← hb]; exact (goodA_may ha).2)
  have HEO := Aside0.mk he
  have q70 : ∀ (f : Fn) (xs ys : Array Value) (w : World), (binOp .eql 70 (.func f xs ys) .nilFunc).run Try.prog w = .ok (.bool false) w := eql_func
  have HFD := Aside0.mk (show ∀ (T base : Nat) (st : Nat) (v : Value) (w : World), Tb w T base (st : Int) v l → st ≤ 1000000 → Calls Try.prog 20 #[.pointer (some ⟨T, 0, none⟩), .agg (eA b)] w fun r w' => ∃ m : Nat, r = .returned (.tuple #[.agg (eE e), .bool true]) ∧ m ≤ 129 * (blen l.length + 1) ∧ Ticks T 1 w w' ((st + m : Nat) : Int) from fun T base st v w ht hst => (table_Find T base st v l b HBO.out w ht HF.out.sorted (Nat.le_trans HLK.out (by decide)) (by omega)).mono (fun r w' h => by
    rw [hq] at h
    obtain ⟨m, h1, h2, h3⟩ := h
    exact ⟨m, h1, h2, by rw [Int.natCast_add]; exact h3⟩))
  rw [hq] at hbest
  have HHE := Aside0.mk (show ∀ w, Calls Try.prog 30 #[.agg (eP e.p), .agg (eA b)] w fun r w' => r = .returned (.bool true) ∧ Below w.heap.size w w' by rw [← hbest.2.1]; exact fun w => ref05_Has e.p he (HNB.out e hbest.1) b HBO.out w)
  have HLE := Aside0.mk hbest.2.2
  clear ha hrd hl hb hbest he hq
  refine (callsIn_wide (n := 9)).1 ?_
  refine callsIn_of_wp_marks Try.func8 rfl trivial ?_ rfl
  simp only [Try.ntmps8, List.size_toArray, List.length_cons, List.length_nil, Nat.reduceAdd, Nat.reduceSub, Array.replicate_succ, Array.replicate_zero, List.push_toArray, List.append_toArray, List.nil_append, List.cons_append]
  gi_wp2_with (first
    | ((with_reducible refine in_gate (N := 3) rfl ?_); refine in_box rfl (N := 3) rfl (fun f hf => by simp [Oper.about] at hf) (fun c hc => by cases hc) (cs := eA a) (t := 34) ?hr ?_; (case hr => first | (go_simp; done) | (go_simp; rfl)); intro g3 hg w1 hbox hb; have H3 := Aside0.mk hbox; have HGg3 := Aside0.mk hg; replace HB := Aside0.mk (below_step HB.out hb); have HZ3 := Aside0.mk (show w.heap.size ≤ g3 by rw [hg]; exact Nat.le_refl _); clear hbox hb hg)
    | ((with_reducible refine in_gate (N := 4) rfl ?_); refine in_box rfl (N := 4) rfl (fun f hf => by simp [Oper.about] at hf) (fun c hc => by cases hc) (cs := #[.bool false]) (t := 4) ?hr ?_; (case hr => first | (go_simp; done) | (go_simp; rfl)); intro g4 hg w2 hbox hb; have H4 := Aside0.mk hbox; have HGg4 := Aside0.mk hg; have HN34 := Aside0.mk (show g3 ≠ g4 by have := (Array.getElem?_eq_some_iff.1 H3.out).1; omega); have HZ4 := Aside0.mk (show w.heap.size ≤ g4 by have := HB.out.size; omega); replace H3 := Aside0.mk (blk_below H3.out hb); replace HB := Aside0.mk (below_step HB.out hb); clear hbox hb hg)
    | (refine ⟨trivial, ?_⟩; gi_at_call 27; refine (callsIn_wide.2 (HPL.out _ (rdD_below HRD.out HB.out))).mono ?_; rintro r w3 ⟨u, rfl, ⟨sv, ht⟩, ho, hb⟩; have HTS := Aside0.mk HB.out.size; have HT := Aside0.mk ht; have HN3 := Aside0.mk (show g3 ≠ w2.heap.size by have := (Array.getElem?_eq_some_iff.1 H3.out).1; omega); have HN4 := Aside0.mk (show g4 ≠ w2.heap.size by have := (Array.getElem?_eq_some_iff.1 H4.out).1; omega); replace H3 := Aside0.mk (blk_below H3.out hb); replace H4 := Aside0.mk (blk_below H4.out hb); replace HB := Aside0.mk (below_step HB.out hb); clear hb ht ho)
    | ((with_reducible refine in_gate (N := 21) rfl ?_); refine in_load_mid rfl 34 (.tmp 3) rfl g3 0 rfl (lA a) _ (range_row (xs := lA a) H3.out) Try.underlying34 rfl (infoAd_len HA.out) ?_)
    | (refine ⟨trivial, ?_⟩; gi_at_call 17; refine (callsIn_wide.2 (HGA.out _)).mono ?_; rintro r w4 ⟨rfl, hb⟩; replace H3 := Aside0.mk (blk_below H3.out hb); replace H4 := Aside0.mk (blk_below H4.out hb); replace HT := Aside0.mk (tb_below HT.out hb); replace HB := Aside0.mk (below_step HB.out hb); clear hb)
    | ((with_reducible refine in_gate_store (t := 34) (p := 3) rfl ?_); refine in_store_row rfl 34 (.tmp 3) (.tmp 22) rfl g3 (eA b) rfl rfl 34 (eA a) H3.out (infoE HBO.out) ((eA_size HA.out).trans (eA_size HBO.out).symm) (eA_one _) ?_; replace H4 := Aside0.mk ((row_far (cells := eA b) (show g4 ≠ g3 from fun h => HN34.out h.symm)).trans H4.out); replace HT := Aside0.mk (tb_row (cells := eA b) HT.out HN3.out (fun e => own_block_ne HT.out.row H3.out (by decide) e.symm)); replace H3 := Aside0.mk (row_new (cells := eA b) H3.out); replace HB := Aside0.mk (below_row HB.out HZ3.out (eA b)); generalize w4.setRow g3 (eA b) = w5 at H3 H4 HT HB ⊢)
    | ((with_reducible refine in_gate (N := 25) rfl ?_); refine in_load_mid rfl 34 (.tmp 3) rfl g3 0 rfl (lA b) _ (range_row (xs := lA b) H3.out) Try.underlying34 rfl (infoAd_len HBO.out) ?_)
    | (refine ⟨trivial, ?_⟩; gi_at_call 20; refine (callsIn_wide.2 (HFD.out _ _ 0 sv _ HT.out (by decide))).mono ?_; rintro r w6 ⟨m, rfl, hm, htk⟩; rw [Nat.zero_add] at htk; replace H3 := Aside0.mk (ticks_blk htk H3.out HN3.out); replace H4 := Aside0.mk (ticks_blk htk H4.out HN4.out); replace HT := Aside0.mk (tb_ticks HT.out htk); replace HB := Aside0.mk (ticks_new HB.out htk HTS.out (Nat.le_refl _)); clear hm htk)
    | ((with_reducible refine in_gate (N := 8) rfl ?_); refine in_box rfl (N := 8) rfl (fun f hf => by simp [Oper.about] at hf) (fun c hc => by cases hc) (cs := eE noE) (t := 42) ?hr ?_; (case hr => first | (go_simp; done) | (go_simp; rfl)); intro g8 hg w7 hbox hb; have H8 := Aside0.mk hbox; have HGg8 := Aside0.mk hg; have HN38 := Aside0.mk (show g3 ≠ g8 by have := (Array.getElem?_eq_some_iff.1 H3.out).1; omega); have HN48 := Aside0.mk (show g4 ≠ g8 by have := (Array.getElem?_eq_some_iff.1 H4.out).1; omega); have HZ8 := Aside0.mk (show w.heap.size ≤ g8 by have := HB.out.size; omega); have HF8 := Aside0.mk (own_fresh HT.out.row (Nat.le_of_eq hg.symm)); have HT8 := Aside0.mk (show g8 ≠ w2.heap.size by have := (Array.getElem?_eq_some_iff.1 HT.out.blk).1; omega); replace H3 := Aside0.mk (blk_below H3.out hb); replace H4 := Aside0.mk (blk_below H4.out hb); replace HT := Aside0.mk (tb_below HT.out hb); replace HB := Aside0.mk (below_step HB.out hb); clear hbox hb hg)
    | ((with_reducible refine in_gate (N := 9) rfl ?_); refine in_box rfl (N := 9) rfl (fun f hf => by simp [Oper.about] at hf) (fun c hc => by cases hc) (cs := #[.bool false]) (t := 4) ?hr ?_; (case hr => first | (go_simp; done) | (go_simp; rfl)); intro g9 hg w8 hbox hb; have H9 := Aside0.mk hbox; have HGg9 := Aside0.mk hg; have HN39 := Aside0.mk (show g3 ≠ g9 by have := (Array.getElem?_eq_some_iff.1 H3.out).1; omega); have HN49 := Aside0.mk (show g4 ≠ g9 by have := (Array.getElem?_eq_some_iff.1 H4.out).1; omega); have HN89 := Aside0.mk (show g8 ≠ g9 by have := (Array.getElem?_eq_some_iff.1 H8.out).1; omega); have HZ9 := Aside0.mk (show w.heap.size ≤ g9 by have := HB.out.size; omega); replace H3 := Aside0.mk (blk_below H3.out hb); replace H4 := Aside0.mk (blk_below H4.out hb); replace HT := Aside0.mk (tb_below HT.out hb); replace H8 := Aside0.mk (blk_below H8.out hb); replace HB := Aside0.mk (below_step HB.out hb); clear hbox hb hg)
    | ((with_reducible refine in_gate_store (t := 42) (p := 8) rfl ?_); refine in_store_row rfl 42 (.tmp 8) (.tmp 27) rfl g8 (eE e) rfl rfl 42 (eE noE) H8.out (infoEE HEO.out) ((eE_size ok_noE).trans (eE_size HEO.out).symm) (eE_one _) ?_; replace H3 := Aside0.mk ((row_far (cells := eE e) HN38.out).trans H3.out); replace H4 := Aside0.mk ((row_far (cells := eE e) HN48.out).trans H4.out); replace H9 := Aside0.mk ((row_far (cells := eE e) (show g9 ≠ g8 from fun h => HN89.out h.symm)).trans H9.out); replace HT := Aside0.mk (tb_row (cells := eE e) HT.out HT8.out HF8.out); replace H8 := Aside0.mk (row_new (cells := eE e) H8.out); replace HB := Aside0.mk (below_row HB.out HZ8.out (eE e)); generalize w8.setRow g8 (eE e) = w9 at H3 H4 H8 H9 HT HB ⊢)
    | ((with_reducible refine in_gate_store (t := 4) (p := 9) rfl ?_); have c9 := blk_cell0 H9.out; have f9 := blk_froz0 H9.out; refine in_skip rfl (fun f hf => by simp [Oper.about] at hf) (fun c hc => by cases hc) (W1 := w9.setCell ⟨g9, 0, none⟩ (.bool true)) ?hs ?_; (case hs => go_simp); replace H3 := Aside0.mk ((Below.heap_setCell w9 ⟨g9, 0, none⟩ (.bool true) g3 HN39.out).trans H3.out); replace H4 := Aside0.mk ((Below.heap_setCell w9 ⟨g9, 0, none⟩ (.bool true) g4 HN49.out).trans H4.out); replace H8 := Aside0.mk ((Below.heap_setCell w9 ⟨g9, 0, none⟩ (.bool true) g8 HN89.out).trans H8.out); replace HT := Aside0.mk (tb_cell (u := .bool true) HT.out H9.out (by decide)); replace H9 := Aside0.mk (box_here (u := .bool true) H9.out); replace HB := Aside0.mk (below_cell (v := .bool true) HB.out HZ9.out); generalize w9.setCell ⟨g9, 0, none⟩ (.bool true) = w10 at H3 H4 H8 H9 HT HB ⊢; replace c9 := blk_cell0 H9.out; clear f9)
    | ((with_reducible refine in_gate (N := 32) rfl ?_); refine in_when_mid (by kernel_rfl) 39 (.tmp 31) rfl g8 0 rfl (lP e.p) _ (range_pfx H8.out) Try.underlying39 rfl (infoPf_len HEO.out) ?_)
    | ((with_reducible refine in_gate (N := 33) rfl ?_); refine in_when_mid (by kernel_rfl) 34 (.tmp 3) rfl g3 0 rfl (lA b) _ (range_row (xs := lA b) H3.out) Try.underlying34 rfl (infoAd_len HBO.out) ?_)
    | (refine ⟨trivial, ?_⟩; gi_at_call 30; refine (callsIn_wide.2 (HHE.out _)).mono ?_; rintro r w15 ⟨rfl, hb⟩; replace H3 := Aside0.mk (blk_below H3.out hb); replace H4 := Aside0.mk (blk_below H4.out hb); replace H8 := Aside0.mk (blk_below H8.out hb); replace H9 := Aside0.mk (blk_below H9.out hb); replace HT := Aside0.mk (tb_below HT.out hb); replace HB := Aside0.mk (below_step HB.out hb); replace c9 := blk_cell0 H9.out; clear hb)
    | (refine ⟨trivial, ?_⟩; gi_at_call 31; refine (callsIn_wide.2 (table_All _ _ _ sv l (Nat.le_trans HLK.out (by decide)) _ HT.out)).mono ?_; rintro r w11 ⟨A4, cap4, G4, Bs, rfl, hbs, hrd4, hG4, hb⟩; have HBS := Aside0.mk hbs; have HR4 := Aside0.mk hrd4; have HG4 := Aside0.mk hG4; replace H3 := Aside0.mk (blk_below H3.out hb); replace H4 := Aside0.mk (blk_below H4.out hb); replace H8 := Aside0.mk (blk_below H8.out hb); replace H9 := Aside0.mk (blk_below H9.out hb); replace HT := Aside0.mk (tb_below HT.out hb); replace HB := Aside0.mk (below_step HB.out hb); replace c9 := blk_cell0 H9.out; clear hbs hrd4 hG4 hb))
  have hbw := HB.out
  have hlg0 : Lg w g3 g4 g8 g9 b e true w11 := ⟨H3.out, H4.out, H8.out, H9.out, HB.out⟩
  have hG4 := HG4.out
  have HG4L := Aside0.mk (Array.getElem?_eq_some_iff.1 H4.out).1
  have hr4 : Rd w11 50 A4 l.attach.length cap4 G4 (l.attach.map fun x => x.1) := by
    rw [List.length_attach, attach_val]
    exact HR4.out
  have hbs4 : Boxed w11 Bs 50 (.slice A4 l.attach.length cap4) := by
    rw [List.length_attach]
    exact HBS.out
  clear H3 H4 H8 H9 HT HB HBS HR4 HA HRD HF HPL HGA HFD
  refine wpIn_rangeFunc_ownH rfl (by omega) (gf := 67) (lb := #[.pointer (some ⟨Bs, 0, none⟩)]) rfl trivial (enters_of Try.func67 (by kernel_rfl) rfl)
    (vals_stops (fun x : {x // x ∈ l} => x.1) (fun x => HLO.out x.1 x.2) _ (by omega) Bs A4 cap4 G4 l.attach (by rw [List.length_attach]; have := HLK.out; omega) w11 hbs4 hr4 hG4) kpg_t (kpg_b hG4) (Below.refl _ _) (fun _ => rfl)
    (fun _ W => Lg w g3 g4 g8 g9 b e true W ∧ w11.heap.size ≤ W.heap.size)
    (fun _ _ _ => False)
    (fun pre X Y row hs hg hr => ⟨lg_kept hs.1 hg (fun r e => ⟨by have h1 := (hr r e).1; have h2 := hbw.size; omega, (hr r e).2⟩), Nat.le_trans hs.2 hg.size⟩)
    (fun _ _ _ _ _ hs _ _ => hs)
    ⟨hlg0, Nat.le_refl _⟩
    (fun x a' W => ∃ Bx, W.heap[Bx]? = some (.cells (eE x.1) 42 (0, 0)) ∧ a' = { tmps := #[.slice A n cap, .agg (eA a), undef, .pointer (some ⟨g3, 0, none⟩), .pointer (some ⟨g4, 0, none⟩), .pointer (some ⟨w2.heap.size, 0, none⟩), u, .bool true, .pointer (some ⟨g8, 0, none⟩), .pointer (some ⟨g9, 0, none⟩), (.func (.func 67) #[] #[.pointer (some ⟨Bs, 0, none⟩)]), .pointer (some ⟨Bx, 0, none⟩), undef, .tuple #[.pointer (some ⟨w2.heap.size, 0, none⟩), u, .bool true], .slice A n cap, .tuple #[.pointer (some ⟨w2.heap.size, 0, none⟩), u, .bool true], .pointer (some ⟨w2.heap.size, 0, none⟩), u, .bool true, .bool true, .bool false, .agg (lA a).toArray, .agg (eA b), .tuple #[.agg (eE e), .bool true], .pointer (some ⟨w2.heap.size, 0, none⟩), .agg (lA b).toArray, .tuple #[.agg (eE e), .bool true], .agg (eE e), .bool true, .bool true, .bool true, .pointer (some ⟨g8, 0, none⟩), .agg (lP e.p).toArray, .agg (lA b).toArray, .bool true, .bool false, .bool false, .pointer (some ⟨w2.heap.size, 0, none⟩), (.func (.func 67) #[] #[.pointer (some ⟨Bs, 0, none⟩)]), (.func (.func 67) #[] #[.pointer (some ⟨Bs, 0, none⟩)]), .bool false, (.func (.func 67) #[] #[.pointer (some ⟨Bs, 0, none⟩)]), .agg (eE x.1), undef, undef, undef, undef, undef, undef, undef, undef, undef, undef, undef, undef, undef, undef, undef, undef, undef, undef, undef], defers := [] })
    (fun x a' _ X Y row hs hg hr => by obtain ⟨Bx, h1, h2⟩ := hs; exact ⟨Bx, cells_kept h1 hg (fun r e => (hr r e).2), h2⟩)
    ?assign ?body ?done ?stop
  case assign =>
    rintro l' pre ⟨x, hx⟩ W K ⟨hlg, hsz⟩ hK
    dsimp only [encE]
    have HLG := Aside0.mk hlg
    have HSZ := Aside0.mk hsz
    have HGW := Aside0.mk (show G4 < W.heap.size by omega)
    have HXO := Aside0.mk (HLO.out x hx)
    clear hlg hsz
    rw [assign_one]
    simp only [List.setIfInBounds_toArray, List.set_cons_zero, List.set_cons_succ]
    gi_wp2_with (first
      | ((with_reducible refine in_gate (N := 11) rfl ?_); refine in_new rfl (N := 11) rfl (fun f hf => by simp [Oper.about] at hf) (fun c hc => by cases hc) (cs := eE noE) (t := 42) ?hr ?_; (case hr => first | (go_simp; done) | (go_simp; rfl)); intro g7 hg7 w1 hbox hb; have HBX := Aside0.mk hbox; have HB1 := Aside0.mk hb; have HG7 := Aside0.mk hg7; clear hbox hb hg7)
      | ((with_reducible refine in_gate_store (p := 11) rfl ?_); refine in_store_row rfl 42 (.tmp 11) (.tmp 42) rfl g7 (eE x) rfl rfl 42 (eE noE) HBX.out (infoEE HXO.out) ((by rfl : (eE noE).size = 19).trans (eE_size HXO.out).symm) (eE_one x) ?_
         have HX := Aside0.mk (row_new (cells := eE x) HBX.out)
         have HB3 := Aside0.mk (below_row HB1.out (Nat.le_of_eq HG7.out.symm) (eE x))
         generalize w1.setRow g7 (eE x) = w3 at HX HB3 ⊢))
    have hb3 := HB3.out
    exact hK _ _ (KeepsOthers.from ⟨hb3.size, fun k o hk _ => blk_below hk hb3⟩ _) (kpg_below hb3 HGW.out) ⟨lg_below HLG.out hb3, Nat.le_trans HSZ.out hb3.size⟩ ⟨g7, HX.out, rfl⟩
  case body =>
    rintro l' pre ⟨x, hx⟩ a' W hl hrl ⟨hlg, hsz⟩ ⟨Bx, bX, rfl⟩ hlt
    have HLG := Aside0.mk hlg
    have HSZ := Aside0.mk hsz
    have HBX := Aside0.mk bX
    have HGW := Aside0.mk (show G4 < W.heap.size by omega)
    have HXO := Aside0.mk (HLO.out x hx)
    clear hlg hsz bX hlt
    dsimp only
    cases hh : hasB x.p b with
    | false =>
      have HH := Aside0.mk (show ∀ w, Calls Try.prog 30 #[.agg (eP x.p), .agg (eA b)] w fun r w' => r = .returned (.bool false) ∧ Below w.heap.size w w' by rw [← hh]; exact fun w => ref05_Has x.p HXO.out (HNB.out x hx) b HBO.out w)
      clear hh
      gi_wp2_with (first
        | ((with_reducible refine in_gate (N := 44) rfl ?_); refine in_load_mid rfl 39 (.tmp 43) rfl Bx 0 rfl (lP x.p) _ (range_pfx HBX.out) Try.underlying39 rfl (infoPf_len HXO.out) ?_)
        | ((with_reducible refine in_gate (N := 45) rfl ?_); refine in_load_mid rfl 34 (.tmp 3) rfl g3 0 rfl (lA b) _ (range_row (xs := lA b) HLG.out.b3) Try.underlying34 rfl (infoAd_len HBO.out) ?_)
        | (refine ⟨trivial, ?_⟩; gi_at_call 30; refine (CallsIn.inRound l' (callsIn_wide.2 (HH.out _))).mono ?_; rintro r w13 ⟨rfl, hb⟩; have HLG2 := Aside0.mk (lg_below HLG.out hb); have c9 := blk_cell0 HLG2.out.b9; have ce := n_cell HEO.out HLG2.out.b8; have cx := n_cell HXO.out (blk_below HBX.out hb); have HBW := Aside0.mk hb; clear hb))
      exact ⟨(keeps_below HBW.out).from _, kpg_below HBW.out HGW.out, HLG2.out, Nat.le_trans HSZ.out HBW.out.size⟩
    | true =>
      have HH := Aside0.mk (show ∀ w, Calls Try.prog 30 #[.agg (eP x.p), .agg (eA b)] w fun r w' => r = .returned (.bool true) ∧ Below w.heap.size w w' by rw [← hh]; exact fun w => ref05_Has x.p HXO.out (HNB.out x hx) b HBO.out w)
      have dd : decide (e.p.n < x.p.n) = false := decide_eq_false (by have := HLE.out x hx hh; omega)
      clear hh
      gi_wp2_with (first
        | ((with_reducible refine in_gate (N := 44) rfl ?_); refine in_load_mid rfl 39 (.tmp 43) rfl Bx 0 rfl (lP x.p) _ (range_pfx HBX.out) Try.underlying39 rfl (infoPf_len HXO.out) ?_)
        | ((with_reducible refine in_gate (N := 45) rfl ?_); refine in_load_mid rfl 34 (.tmp 3) rfl g3 0 rfl (lA b) _ (range_row (xs := lA b) HLG.out.b3) Try.underlying34 rfl (infoAd_len HBO.out) ?_)
        | (refine ⟨trivial, ?_⟩; gi_at_call 30; refine (CallsIn.inRound l' (callsIn_wide.2 (HH.out _))).mono ?_; rintro r w13 ⟨rfl, hb⟩; have HLG2 := Aside0.mk (lg_below HLG.out hb); have c9 := blk_cell0 HLG2.out.b9; have ce := n_cell HEO.out HLG2.out.b8; have cx := n_cell HXO.out (blk_below HBX.out hb); have HBW := Aside0.mk hb; clear hb))
      exact ⟨(keeps_below HBW.out).from _, kpg_below HBW.out HGW.out, HLG2.out, Nat.le_trans HSZ.out HBW.out.size⟩
  case done =>
    rintro D ys W hD rfl ⟨hlg, hsz⟩ hK
    have HLG := Aside0.mk hlg
    clear hlg
    dsimp only
    gi_wp2_with (first
      | (refine ⟨trivial, ?_⟩; gi_at_call 23; refine (callsIn_wide.2 (law_lives _)).mono ?_; rintro r w14 ⟨rfl, hb⟩; have HL2 := lg_below HLG.out hb; have e4 := blk_cell0 HL2.b4; have ef4 := blk_froz0 HL2.b4))
    have hD4 : D ≠ g4 := by have := HG4L.out; omega
    have hK' : (w14.setCell ⟨g4, 0, none⟩ (.bool true)).heap[D]? = some (.deferred (some [])) := (Below.heap_setCell w14 ⟨g4, 0, none⟩ (.bool true) D hD4).trans (blk_below hK hb)
    refine ⟨by simp, .inl ⟨_, _, rfl, run_takeDeferred hK', ?_⟩⟩
    exact ⟨_, results_bool rfl _ _ g4 rfl (cells_kept (box_here HL2.b4) (grown_put _ D _) (fun r e => by cases e; exact ⟨_, hK', rfl⟩)), rfl, (below_cell HL2.bel HZ4.out).trans (belowK_b (w := w) (Nat.le_refl _) _ D _ _ (by have := hbw.size; omega) hK' rfl rfl)⟩
  case stop =>
    rintro D c pre W _ _ h _
    exact h.elim
set_option maxHeartbeats 4000000 in
set_option maxRecDepth 100000 in
theorem longest_none (A : Option Addr) (n cap : Nat) (L : List De) (a : Ad) (ha : a.ok) (l : List En) (hl : playE (L.take 40) = l) (b : Ad) (hb : goodA a = b) (e : En) (hq : findQ l b = none ∧ e = noE) (he : e.p.a.ok) (w : World) (hrd : RdD w A n cap L) :
    Calls Try.prog 8 #[.slice A n cap, .agg (eA a)] w fun r w' => r = .returned (.bool true) ∧ Below w.heap.size w w' := by
  have HA := Aside0.mk ha
  have HRD := Aside0.mk hrd
  have HB := Aside0.mk (Below.refl w.heap.size w)
  have HF := Aside0.mk (fine_play (L.take 40) (fun x hx => by
    obtain ⟨i, hi⟩ := List.getElem?_of_mem (List.mem_of_mem_take hx)
    obtain ⟨_, _, _, _, h⟩ := hrd.at_ i x hi
    exact h))
  have HLK := Aside0.mk (show (playE (L.take 40)).length ≤ 40 by
    have h1 := HF.out.len
    have h2 : (L.take 40).length ≤ 40 := by rw [List.length_take]; exact Nat.min_le_left _ _
    omega)
  have HPL := Aside0.mk (fun w1 (h : RdD w1 A n cap L) => law_play A n cap L w1 h)
  rw [hl] at HF HLK HPL
  have HLO := Aside0.mk HF.out.ok
  have HNB := Aside0.mk (may_nb HF.out)
  have HBO := Aside0.mk (show b.ok by rw [← hb]; exact ok_goodA ha)
  have HGA := Aside0.mk (show ∀ w, Calls Try.prog 17 #[.agg (eA a)] w fun e w' => e = .returned (.agg (eA b)) ∧ Below w.heap.size w w' by rw [← hb]; exact fun w => ref04_Good a ha w)
  have hbest : Best l b (findQ l b) := findQ_best HF.out.ok HF.out.may HBO.out (by rw [← hb]; exact (goodA_may ha).1) (by rw [← hb]; exact (goodA_may ha).2)
  have HEO := Aside0.mk he
  have q70 : ∀ (f : Fn) (xs ys : Array Value) (w : World), (binOp .eql 70 (.func f xs ys) .nilFunc).run Try.prog w = .ok (.bool false) w := eql_func
  have HFD := Aside0.mk (show ∀ (T base : Nat) (st : Nat) (v : Value) (w : World), Tb w T base (st : Int) v l → st ≤ 1000000 → Calls Try.prog 20 #[.pointer (some ⟨T, 0, none⟩), .agg (eA b)] w fun r w' => ∃ m : Nat, r = .returned (.tuple #[.agg (eE e), .bool false]) ∧ m ≤ 129 * (blen l.length + 1) ∧ Ticks T 1 w w' ((st + m : Nat) : Int) from fun T base st v w ht hst => (table_Find T base st v l b HBO.out w ht HF.out.sorted (Nat.le_trans HLK.out (by decide)) (by omega)).mono (fun r w' h => by
    rw [hq.1] at h
    obtain ⟨m, h1, h2, h3⟩ := h
    exact ⟨m, (by rw [hq.2]; exact h1), h2, by rw [Int.natCast_add]; exact h3⟩))
  rw [hq.1] at hbest
  have HNO := Aside0.mk (show ∀ x ∈ l, hasB x.p b = false from hbest)
  clear ha hrd hl hb hbest he hq
  refine (callsIn_wide (n := 9)).1 ?_
  refine callsIn_of_wp_marks Try.func8 rfl trivial ?_ rfl
  simp only [Try.ntmps8, List.size_toArray, List.length_cons, List.length_nil, Nat.reduceAdd, Nat.reduceSub, Array.replicate_succ, Array.replicate_zero, List.push_toArray, List.append_toArray, List.nil_append, List.cons_append]
  gi_wp2_with (first
    | ((with_reducible refine in_gate (N := 3) rfl ?_); refine in_box rfl (N := 3) rfl (fun f hf => by simp [Oper.about] at hf) (fun c hc => by cases hc) (cs := eA a) (t := 34) ?hr ?_; (case hr => first | (go_simp; done) | (go_simp; rfl)); intro g3 hg w1 hbox hb; have H3 := Aside0.mk hbox; have HGg3 := Aside0.mk hg; replace HB := Aside0.mk (below_step HB.out hb); have HZ3 := Aside0.mk (show w.heap.size ≤ g3 by rw [hg]; exact Nat.le_refl _); clear hbox hb hg)
    | ((with_reducible refine in_gate (N := 4) rfl ?_); refine in_box rfl (N := 4) rfl (fun f hf => by simp [Oper.about] at hf) (fun c hc => by cases hc) (cs := #[.bool false]) (t := 4) ?hr ?_; (case hr => first | (go_simp; done) | (go_simp; rfl)); intro g4 hg w2 hbox hb; have H4 := Aside0.mk hbox; have HGg4 := Aside0.mk hg; have HN34 := Aside0.mk (show g3 ≠ g4 by have := (Array.getElem?_eq_some_iff.1 H3.out).1; omega); have HZ4 := Aside0.mk (show w.heap.size ≤ g4 by have := HB.out.size; omega); replace H3 := Aside0.mk (blk_below H3.out hb); replace HB := Aside0.mk (below_step HB.out hb); clear hbox hb hg)
    | (refine ⟨trivial, ?_⟩; gi_at_call 27; refine (callsIn_wide.2 (HPL.out _ (rdD_below HRD.out HB.out))).mono ?_; rintro r w3 ⟨u, rfl, ⟨sv, ht⟩, ho, hb⟩; have HTS := Aside0.mk HB.out.size; have HT := Aside0.mk ht; have HN3 := Aside0.mk (show g3 ≠ w2.heap.size by have := (Array.getElem?_eq_some_iff.1 H3.out).1; omega); have HN4 := Aside0.mk (show g4 ≠ w2.heap.size by have := (Array.getElem?_eq_some_iff.1 H4.out).1; omega); replace H3 := Aside0.mk (blk_below H3.out hb); replace H4 := Aside0.mk (blk_below H4.out hb); replace HB := Aside0.mk (below_step HB.out hb); clear hb ht ho)
    | ((with_reducible refine in_gate (N := 21) rfl ?_); refine in_load_mid rfl 34 (.tmp 3) rfl g3 0 rfl (lA a) _ (range_row (xs := lA a) H3.out) Try.underlying34 rfl (infoAd_len HA.out) ?_)
    | (refine ⟨trivial, ?_⟩; gi_at_call 17; refine (callsIn_wide.2 (HGA.out _)).mono ?_; rintro r w4 ⟨rfl, hb⟩; replace H3 := Aside0.mk (blk_below H3.out hb); replace H4 := Aside0.mk (blk_below H4.out hb); replace HT := Aside0.mk (tb_below HT.out hb); replace HB := Aside0.mk (below_step HB.out hb); clear hb)
    | ((with_reducible refine in_gate_store (t := 34) (p := 3) rfl ?_); refine in_store_row rfl 34 (.tmp 3) (.tmp 22) rfl g3 (eA b) rfl rfl 34 (eA a) H3.out (infoE HBO.out) ((eA_size HA.out).trans (eA_size HBO.out).symm) (eA_one _) ?_; replace H4 := Aside0.mk ((row_far (cells := eA b) (show g4 ≠ g3 from fun h => HN34.out h.symm)).trans H4.out); replace HT := Aside0.mk (tb_row (cells := eA b) HT.out HN3.out (fun e => own_block_ne HT.out.row H3.out (by decide) e.symm)); replace H3 := Aside0.mk (row_new (cells := eA b) H3.out); replace HB := Aside0.mk (below_row HB.out HZ3.out (eA b)); generalize w4.setRow g3 (eA b) = w5 at H3 H4 HT HB ⊢)
    | ((with_reducible refine in_gate (N := 25) rfl ?_); refine in_load_mid rfl 34 (.tmp 3) rfl g3 0 rfl (lA b) _ (range_row (xs := lA b) H3.out) Try.underlying34 rfl (infoAd_len HBO.out) ?_)
    | (refine ⟨trivial, ?_⟩; gi_at_call 20; refine (callsIn_wide.2 (HFD.out _ _ 0 sv _ HT.out (by decide))).mono ?_; rintro r w6 ⟨m, rfl, hm, htk⟩; rw [Nat.zero_add] at htk; replace H3 := Aside0.mk (ticks_blk htk H3.out HN3.out); replace H4 := Aside0.mk (ticks_blk htk H4.out HN4.out); replace HT := Aside0.mk (tb_ticks HT.out htk); replace HB := Aside0.mk (ticks_new HB.out htk HTS.out (Nat.le_refl _)); clear hm htk)
    | ((with_reducible refine in_gate (N := 8) rfl ?_); refine in_box rfl (N := 8) rfl (fun f hf => by simp [Oper.about] at hf) (fun c hc => by cases hc) (cs := eE noE) (t := 42) ?hr ?_; (case hr => first | (go_simp; done) | (go_simp; rfl)); intro g8 hg w7 hbox hb; have H8 := Aside0.mk hbox; have HGg8 := Aside0.mk hg; have HN38 := Aside0.mk (show g3 ≠ g8 by have := (Array.getElem?_eq_some_iff.1 H3.out).1; omega); have HN48 := Aside0.mk (show g4 ≠ g8 by have := (Array.getElem?_eq_some_iff.1 H4.out).1; omega); have HZ8 := Aside0.mk (show w.heap.size ≤ g8 by have := HB.out.size; omega); have HF8 := Aside0.mk (own_fresh HT.out.row (Nat.le_of_eq hg.symm)); have HT8 := Aside0.mk (show g8 ≠ w2.heap.size by have := (Array.getElem?_eq_some_iff.1 HT.out.blk).1; omega); replace H3 := Aside0.mk (blk_below H3.out hb); replace H4 := Aside0.mk (blk_below H4.out hb); replace HT := Aside0.mk (tb_below HT.out hb); replace HB := Aside0.mk (below_step HB.out hb); clear hbox hb hg)
    | ((with_reducible refine in_gate (N := 9) rfl ?_); refine in_box rfl (N := 9) rfl (fun f hf => by simp [Oper.about] at hf) (fun c hc => by cases hc) (cs := #[.bool false]) (t := 4) ?hr ?_; (case hr => first | (go_simp; done) | (go_simp; rfl)); intro g9 hg w8 hbox hb; have H9 := Aside0.mk hbox; have HGg9 := Aside0.mk hg; have HN39 := Aside0.mk (show g3 ≠ g9 by have := (Array.getElem?_eq_some_iff.1 H3.out).1; omega); have HN49 := Aside0.mk (show g4 ≠ g9 by have := (Array.getElem?_eq_some_iff.1 H4.out).1; omega); have HN89 := Aside0.mk (show g8 ≠ g9 by have := (Array.getElem?_eq_some_iff.1 H8.out).1; omega); have HZ9 := Aside0.mk (show w.heap.size ≤ g9 by have := HB.out.size; omega); replace H3 := Aside0.mk (blk_below H3.out hb); replace H4 := Aside0.mk (blk_below H4.out hb); replace HT := Aside0.mk (tb_below HT.out hb); replace H8 := Aside0.mk (blk_below H8.out hb); replace HB := Aside0.mk (below_step HB.out hb); clear hbox hb hg)
    | ((with_reducible refine in_gate_store (t := 42) (p := 8) rfl ?_); refine in_store_row rfl 42 (.tmp 8) (.tmp 27) rfl g8 (eE e) rfl rfl 42 (eE noE) H8.out (infoEE HEO.out) ((eE_size ok_noE).trans (eE_size HEO.out).symm) (eE_one _) ?_; replace H3 := Aside0.mk ((row_far (cells := eE e) HN38.out).trans H3.out); replace H4 := Aside0.mk ((row_far (cells := eE e) HN48.out).trans H4.out); replace H9 := Aside0.mk ((row_far (cells := eE e) (show g9 ≠ g8 from fun h => HN89.out h.symm)).trans H9.out); replace HT := Aside0.mk (tb_row (cells := eE e) HT.out HT8.out HF8.out); replace H8 := Aside0.mk (row_new (cells := eE e) H8.out); replace HB := Aside0.mk (below_row HB.out HZ8.out (eE e)); generalize w8.setRow g8 (eE e) = w9 at H3 H4 H8 H9 HT HB ⊢)
    | ((with_reducible refine in_gate_store (t := 4) (p := 9) rfl ?_); have c9 := blk_cell0 H9.out; have f9 := blk_froz0 H9.out; refine in_skip rfl (fun f hf => by simp [Oper.about] at hf) (fun c hc => by cases hc) (W1 := w9.setCell ⟨g9, 0, none⟩ (.bool false)) ?hs ?_; (case hs => go_simp); replace H3 := Aside0.mk ((Below.heap_setCell w9 ⟨g9, 0, none⟩ (.bool false) g3 HN39.out).trans H3.out); replace H4 := Aside0.mk ((Below.heap_setCell w9 ⟨g9, 0, none⟩ (.bool false) g4 HN49.out).trans H4.out); replace H8 := Aside0.mk ((Below.heap_setCell w9 ⟨g9, 0, none⟩ (.bool false) g8 HN89.out).trans H8.out); replace HT := Aside0.mk (tb_cell (u := .bool false) HT.out H9.out (by decide)); replace H9 := Aside0.mk (box_here (u := .bool false) H9.out); replace HB := Aside0.mk (below_cell (v := .bool false) HB.out HZ9.out); generalize w9.setCell ⟨g9, 0, none⟩ (.bool false) = w10 at H3 H4 H8 H9 HT HB ⊢; replace c9 := blk_cell0 H9.out; clear f9)
    | (refine ⟨trivial, ?_⟩; gi_at_call 31; refine (callsIn_wide.2 (table_All _ _ _ sv l (Nat.le_trans HLK.out (by decide)) _ HT.out)).mono ?_; rintro r w11 ⟨A4, cap4, G4, Bs, rfl, hbs, hrd4, hG4, hb⟩; have HBS := Aside0.mk hbs; have HR4 := Aside0.mk hrd4; have HG4 := Aside0.mk hG4; replace H3 := Aside0.mk (blk_below H3.out hb); replace H4 := Aside0.mk (blk_below H4.out hb); replace H8 := Aside0.mk (blk_below H8.out hb); replace H9 := Aside0.mk (blk_below H9.out hb); replace HT := Aside0.mk (tb_below HT.out hb); replace HB := Aside0.mk (below_step HB.out hb); replace c9 := blk_cell0 H9.out; clear hbs hrd4 hG4 hb)
    | (refine ⟨trivial, ?_⟩))
  have hbw := HB.out
  have hlg0 : Lg w g3 g4 g8 g9 b e false w11 := ⟨H3.out, H4.out, H8.out, H9.out, HB.out⟩
  have hG4 := HG4.out
  have HG4L := Aside0.mk (Array.getElem?_eq_some_iff.1 H4.out).1
  have hr4 : Rd w11 50 A4 l.attach.length cap4 G4 (l.attach.map fun x => x.1) := by
    rw [List.length_attach, attach_val]
    exact HR4.out
  have hbs4 : Boxed w11 Bs 50 (.slice A4 l.attach.length cap4) := by
    rw [List.length_attach]
    exact HBS.out
  clear H3 H4 H8 H9 HT HB HBS HR4 HA HRD HF HPL HGA HFD
  refine wpIn_rangeFunc_ownH rfl (by omega) (gf := 67) (lb := #[.pointer (some ⟨Bs, 0, none⟩)]) rfl trivial (enters_of Try.func67 (by kernel_rfl) rfl)
    (vals_stops (fun x : {x // x ∈ l} => x.1) (fun x => HLO.out x.1 x.2) _ (by omega) Bs A4 cap4 G4 l.attach (by rw [List.length_attach]; have := HLK.out; omega) w11 hbs4 hr4 hG4) kpg_t (kpg_b hG4) (Below.refl _ _) (fun _ => rfl)
    (fun _ W => Lg w g3 g4 g8 g9 b e false W ∧ w11.heap.size ≤ W.heap.size)
    (fun _ _ _ => False)
    (fun pre X Y row hs hg hr => ⟨lg_kept hs.1 hg (fun r e => ⟨by have h1 := (hr r e).1; have h2 := hbw.size; omega, (hr r e).2⟩), Nat.le_trans hs.2 hg.size⟩)
    (fun _ _ _ _ _ hs _ _ => hs)
    ⟨hlg0, Nat.le_refl _⟩
    (fun x a' W => ∃ Bx, W.heap[Bx]? = some (.cells (eE x.1) 42 (0, 0)) ∧ a' = { tmps := #[.slice A n cap, .agg (eA a), undef, .pointer (some ⟨g3, 0, none⟩), .pointer (some ⟨g4, 0, none⟩), .pointer (some ⟨w2.heap.size, 0, none⟩), u, .bool true, .pointer (some ⟨g8, 0, none⟩), .pointer (some ⟨g9, 0, none⟩), (.func (.func 67) #[] #[.pointer (some ⟨Bs, 0, none⟩)]), .pointer (some ⟨Bx, 0, none⟩), undef, .tuple #[.pointer (some ⟨w2.heap.size, 0, none⟩), u, .bool true], .slice A n cap, .tuple #[.pointer (some ⟨w2.heap.size, 0, none⟩), u, .bool true], .pointer (some ⟨w2.heap.size, 0, none⟩), u, .bool true, .bool true, .bool false, .agg (lA a).toArray, .agg (eA b), .tuple #[.agg (eE e), .bool false], .pointer (some ⟨w2.heap.size, 0, none⟩), .agg (lA b).toArray, .tuple #[.agg (eE e), .bool false], .agg (eE e), .bool false, .bool false, .bool false, undef, undef, undef, undef, undef, .bool false, .pointer (some ⟨w2.heap.size, 0, none⟩), (.func (.func 67) #[] #[.pointer (some ⟨Bs, 0, none⟩)]), (.func (.func 67) #[] #[.pointer (some ⟨Bs, 0, none⟩)]), .bool false, (.func (.func 67) #[] #[.pointer (some ⟨Bs, 0, none⟩)]), .agg (eE x.1), undef, undef, undef, undef, undef, undef, undef, undef, undef, undef, undef, undef, undef, undef, undef, undef, undef, undef, undef], defers := [] })
    (fun x a' _ X Y row hs hg hr => by obtain ⟨Bx, h1, h2⟩ := hs; exact ⟨Bx, cells_kept h1 hg (fun r e => (hr r e).2), h2⟩)
    ?assign ?body ?done ?stop
  case assign =>
    rintro l' pre ⟨x, hx⟩ W K ⟨hlg, hsz⟩ hK
    dsimp only [encE]
    have HLG := Aside0.mk hlg
    have HSZ := Aside0.mk hsz
    have HGW := Aside0.mk (show G4 < W.heap.size by omega)
    have HXO := Aside0.mk (HLO.out x hx)
    clear hlg hsz
    rw [assign_one]
    simp only [List.setIfInBounds_toArray, List.set_cons_zero, List.set_cons_succ]
    gi_wp2_with (first
      | ((with_reducible refine in_gate (N := 11) rfl ?_); refine in_new rfl (N := 11) rfl (fun f hf => by simp [Oper.about] at hf) (fun c hc => by cases hc) (cs := eE noE) (t := 42) ?hr ?_; (case hr => first | (go_simp; done) | (go_simp; rfl)); intro g7 hg7 w1 hbox hb; have HBX := Aside0.mk hbox; have HB1 := Aside0.mk hb; have HG7 := Aside0.mk hg7; clear hbox hb hg7)
      | ((with_reducible refine in_gate_store (p := 11) rfl ?_); refine in_store_row rfl 42 (.tmp 11) (.tmp 42) rfl g7 (eE x) rfl rfl 42 (eE noE) HBX.out (infoEE HXO.out) ((by rfl : (eE noE).size = 19).trans (eE_size HXO.out).symm) (eE_one x) ?_
         have HX := Aside0.mk (row_new (cells := eE x) HBX.out)
         have HB3 := Aside0.mk (below_row HB1.out (Nat.le_of_eq HG7.out.symm) (eE x))
         generalize w1.setRow g7 (eE x) = w3 at HX HB3 ⊢))
    have hb3 := HB3.out
    exact hK _ _ (KeepsOthers.from ⟨hb3.size, fun k o hk _ => blk_below hk hb3⟩ _) (kpg_below hb3 HGW.out) ⟨lg_below HLG.out hb3, Nat.le_trans HSZ.out hb3.size⟩ ⟨g7, HX.out, rfl⟩
  case body =>
    rintro l' pre ⟨x, hx⟩ a' W hl hrl ⟨hlg, hsz⟩ ⟨Bx, bX, rfl⟩ hlt
    have HLG := Aside0.mk hlg
    have HSZ := Aside0.mk hsz
    have HBX := Aside0.mk bX
    have HGW := Aside0.mk (show G4 < W.heap.size by omega)
    have HXO := Aside0.mk (HLO.out x hx)
    clear hlg hsz bX hlt
    dsimp only
    have hh : hasB x.p b = false := HNO.out x hx
    have HH := Aside0.mk (show ∀ w, Calls Try.prog 30 #[.agg (eP x.p), .agg (eA b)] w fun r w' => r = .returned (.bool false) ∧ Below w.heap.size w w' by rw [← hh]; exact fun w => ref05_Has x.p HXO.out (HNB.out x hx) b HBO.out w)
    clear hh
    gi_wp2_with (first
      | ((with_reducible refine in_gate (N := 44) rfl ?_); refine in_load_mid rfl 39 (.tmp 43) rfl Bx 0 rfl (lP x.p) _ (range_pfx HBX.out) Try.underlying39 rfl (infoPf_len HXO.out) ?_)
      | ((with_reducible refine in_gate (N := 45) rfl ?_); refine in_load_mid rfl 34 (.tmp 3) rfl g3 0 rfl (lA b) _ (range_row (xs := lA b) HLG.out.b3) Try.underlying34 rfl (infoAd_len HBO.out) ?_)
      | (refine ⟨trivial, ?_⟩; gi_at_call 30; refine (CallsIn.inRound l' (callsIn_wide.2 (HH.out _))).mono ?_; rintro r w13 ⟨rfl, hb⟩; have HLG2 := Aside0.mk (lg_below HLG.out hb); have c9 := blk_cell0 HLG2.out.b9; have ce := n_cell HEO.out HLG2.out.b8; have cx := n_cell HXO.out (blk_below HBX.out hb); have HBW := Aside0.mk hb; clear hb))
    exact ⟨(keeps_below HBW.out).from _, kpg_below HBW.out HGW.out, HLG2.out, Nat.le_trans HSZ.out HBW.out.size⟩
  case done =>
    rintro D ys W hD rfl ⟨hlg, hsz⟩ hK
    have HLG := Aside0.mk hlg
    clear hlg
    dsimp only
    gi_wp2_with (first
      | (refine ⟨trivial, ?_⟩; gi_at_call 23; refine (callsIn_wide.2 (law_lives _)).mono ?_; rintro r w14 ⟨rfl, hb⟩; have HL2 := lg_below HLG.out hb; have e4 := blk_cell0 HL2.b4; have ef4 := blk_froz0 HL2.b4))
    have hD4 : D ≠ g4 := by have := HG4L.out; omega
    have hK' : (w14.setCell ⟨g4, 0, none⟩ (.bool true)).heap[D]? = some (.deferred (some [])) := (Below.heap_setCell w14 ⟨g4, 0, none⟩ (.bool true) D hD4).trans (blk_below hK hb)
    refine ⟨by simp, .inl ⟨_, _, rfl, run_takeDeferred hK', ?_⟩⟩
    exact ⟨_, results_bool rfl _ _ g4 rfl (cells_kept (box_here HL2.b4) (grown_put _ D _) (fun r e => by cases e; exact ⟨_, hK', rfl⟩)), rfl, (below_cell HL2.bel HZ4.out).trans (belowK_b (w := w) (Nat.le_refl _) _ D _ _ (by have := hbw.size; omega) hK' rfl rfl)⟩
  case stop =>
    rintro D c pre W _ _ h _
    exact h.elim
theorem law_Longest (A : Option Addr) (n cap : Nat) (L : List De) (a : Ad) (ha : a.ok) (w : World) (hrd : RdD w A n cap L) :
    Calls Try.prog 8 #[.slice A n cap, .agg (eA a)] w fun r w' => r = .returned (.bool true) ∧ Below w.heap.size w w' := by
  cases hq : findQ (playE (L.take 40)) (goodA a) with
  | none => exact longest_none A n cap L a ha _ rfl _ rfl noE ⟨hq, rfl⟩ ok_noE w hrd
  | some e =>
    refine longest_some A n cap L a ha _ rfl _ rfl e hq ?_ w hrd
    have hf := fine_play (L.take 40) (fun x hx => by
      obtain ⟨i, hi⟩ := List.getElem?_of_mem (List.mem_of_mem_take hx)
      obtain ⟨_, _, _, _, h⟩ := hrd.at_ i x hi
      exact h)
    have := findQ_best hf.ok hf.may (ok_goodA ha) (goodA_may ha).1 (goodA_may ha).2
    rw [hq] at this
    exact hf.ok e this.1
end Go.Proofs.Ythjhbhgfckaklaa.P
