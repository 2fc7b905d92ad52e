/-
  Texts of the proof, put together.
-/
import Derived.Test.YthjhbhgfckaklaaArrX
section
namespace Go.Proofs.Ythjhbhgfckaklaa.P
open Go.RowKit Go.Proofs.YthjhbhgfckaklaaW.PrintWords Go.Proofs.YthjhbhgfckaklaaW.PrintLast Go.Proofs.YthjhbhgfckaklaaW.PrintMore
set_option linter.unusedVariables false
set_option linter.unusedSimpArgs false
def notEn (o : Obj) : Prop := ∀ cs fr, o ≠ .cells cs 42 fr
/-- All blocks but the table's own, and rows of entries from 'base' on, are as they were. -/
structure Chg (T base : Nat) (w w' : World) : Prop where
  os : w'.os = w.os
  tape : w'.tape = w.tape
  output : w'.output = w.output
  size : w.heap.size ≤ w'.heap.size
  block : ∀ k o, k ≠ T → w.heap[k]? = some o → (k < base ∨ notEn o) → w'.heap[k]? = some o
theorem chg_below {T base : Nat} {w w' : World} (h : Below w.heap.size w w') : Chg T base w w' := ⟨h.os, h.tape, h.output, h.size, fun k o _ ho _ => blk_below ho h⟩
theorem own_ne {w : World} {base n k : Nat} {v : Value} {xs : List Value} {o : Obj} (h : w.ownsRow base 42 19 v n xs) (ho : w.heap[k]? = some o) (hk : k < base ∨ notEn o) : some k ≠ v.ownBlock := by
  rcases h.2 with ⟨rfl, _⟩ | ⟨g, cap, cur, rfl, hb, hg, _⟩
  · intro e; cases e
  · intro e
    have e' : k = g := Option.some.inj e
    subst e'
    rcases hk with hk | hk
    · omega
    · rw [hg] at ho
      cases ho
      exact hk _ _ rfl
theorem own_some {w : World} {base n : Nat} {te : TypeId} {v : Value} {xs : List Value} (h : w.ownsRow base te 19 v (n + 1) xs) : ∃ g cap cur, v = .slice (some ⟨g, 0, none⟩) (n + 1) cap ∧ base ≤ g ∧ w.heap[g]? = some (.cells cur te (0, 0)) := by
  rcases h.2 with ⟨_, h0⟩ | ⟨g, cap, cur, rfl, hb, hg, _⟩
  · cases h0
  · exact ⟨g, cap, cur, rfl, hb, hg⟩
theorem chg_grown {T base n : Nat} {v : Value} {xs : List Value} {w w' : World} (hr : w.ownsRow base 42 19 v n xs) (h : w.grownBy w' v.ownBlock) : Chg T base w w' :=
  ⟨h.os, h.tape, h.output, h.size, fun k o _ ho hk => (h.block k (Array.getElem?_eq_some_iff.1 ho).1 (own_ne hr ho hk)).trans ho⟩
theorem chg_trans {T base : Nat} {a b c : World} (h : Chg T base a b) (k : Chg T base b c) : Chg T base a c :=
  ⟨k.os.trans h.os, k.tape.trans h.tape, k.output.trans h.output, Nat.le_trans h.size k.size, fun x o hn ho hx => k.block x o hn (h.block x o hn ho hx) hx⟩
theorem chg_tab {T base j : Nat} {w : World} {v : Value} : Chg T base w (w.setCell ⟨T, j, none⟩ v) :=
  ⟨rfl, rfl, rfl, by unfold World.setCell; simp, fun k o hn ho _ => (Below.heap_setCell w _ _ k hn).trans ho⟩
theorem chg_row {T base g j : Nat} {w : World} {v : Value} {cs : Array Value} {fr : Nat × Nat} (hb : base ≤ g) (hg : w.heap[g]? = some (.cells cs 42 fr)) : Chg T base w (w.setCell ⟨g, j, none⟩ v) :=
  ⟨rfl, rfl, rfl, by unfold World.setCell; simp, fun k o hn ho hk => (Below.heap_setCell w _ _ k (by
    intro e
    have e' : k = g := e
    subst e'
    rcases hk with hk | hk
    · omega
    · rw [hg] at ho
      cases ho
      exact hk _ _ rfl)).trans ho⟩
/-- All blocks but the table's own, and its row's, keep their shape. -/
def Shp (T : Nat) (sv : Value) (w w' : World) : Prop := ∀ k cs t, k ≠ T → some k ≠ sv.ownBlock → w.heap[k]? = some (.cells cs t (0, 0)) → ∃ cs', w'.heap[k]? = some (.cells cs' t (0, 0)) ∧ cs'.size = cs.size
theorem shp_cell {T g j : Nat} {sv v : Value} {w w' : World} (h : Shp T sv w w') : Shp T sv w (w'.setCell ⟨g, j, none⟩ v) := fun k cs t h1 h2 hk => by
  obtain ⟨cs', h3, h4⟩ := h k cs t h1 h2 hk
  by_cases hg : k = g
  · subst hg
    exact ⟨cs'.setIfInBounds j v, blk_put h3 j v rfl, by rw [Array.size_setIfInBounds, h4]⟩
  · exact ⟨cs', (Below.heap_setCell w' _ _ k hg).trans h3, h4⟩
theorem shp_grown {T : Nat} {sv : Value} {w w5 w6 : World} (h : Below w.heap.size w w5) (hg : w5.grownBy w6 sv.ownBlock) : Shp T sv w w6 := fun k cs t _ h2 hk => by
  have h3 := blk_below hk h
  exact ⟨cs, (hg.block k (Array.getElem?_eq_some_iff.1 h3).1 h2).trans h3, rfl⟩
section
variable {P : Program} {ops : Array Oper} {Q : Exit → Act → World → Prop} {md : Region.Mode} {S : World → Prop}
/-- In a region: the world as a letter of which so much is known. -/
theorem anyH_at {R : World → Prop} {fuel : Nat} {listed : Array Bool} {a : Act} {w : World} (hr : R w) (h : ∀ w' : World, R w' → wpAnyH P md ops Q S fuel listed a w') : wpAnyH P md ops Q S fuel listed a w := h w hr
end
/-- An entry's value is another one. -/
theorem flE_set {l : List En} (hl : okE l) {i : Nat} {e : En} (he : l[i]? = some e) (v : Int) : flE (l.set i ⟨e.p, v⟩) = (flE l).set (i * 19 + 18) (.int .i64 v) := by
  obtain ⟨hi, hie⟩ := List.getElem?_eq_some_iff.1 he
  have h1 : l = l.take i ++ e :: l.drop (i + 1) := by
    conv => lhs; rw [← List.take_append_drop i l, List.drop_eq_getElem_cons hi, hie]
  have hlt : (l.take i).length = i := by rw [List.length_take, Nat.min_eq_left (Nat.le_of_lt hi)]
  have h2 : l.set i ⟨e.p, v⟩ = l.take i ++ ⟨e.p, v⟩ :: l.drop (i + 1) := by
    conv => lhs; rw [h1]
    rw [List.set_append_right _ _ (by rw [hlt]; exact Nat.le_refl _), hlt, Nat.sub_self, List.set_cons_zero]
  have hft : (flE (l.take i)).length = i * 19 := by rw [flE_len (fun x hx => hl x (List.mem_of_mem_take hx)), hlt]
  have oe : e.p.a.ok := hl e (List.mem_of_getElem? he)
  have h3 : flE l = flE (l.take i) ++ (lE e ++ flE (l.drop (i + 1))) := by
    conv => lhs; rw [h1, flE_append, flE_cons]
  rw [h2, flE_append, flE_cons, h3, List.set_append_right _ _ (by rw [hft]; omega), hft, show i * 19 + 18 - i * 19 = 18 by omega, List.set_append_left _ _ (by rw [lE_len oe]; decide)]
  congr 2
  show lP e.p ++ [Value.int .i64 v] = (lP e.p ++ [Value.int .i64 e.v]).set 18 (.int .i64 v)
  rw [List.set_append_right _ _ (by rw [lP_len oe]; exact Nat.le_refl _), lP_len oe]
  rfl
theorem own_value {w : World} {base g n cap : Nat} {te : TypeId} {l : List En} (h : w.ownsRow base te 19 (.slice (some ⟨g, 0, none⟩) n cap) n (flE l)) (hl : okE l) {i : Nat} {e : En} (he : l[i]? = some e) (v : Int) :
    (w.setCell ⟨g, i * 19 + 18, none⟩ (.int .i64 v)).ownsRow base te 19 (.slice (some ⟨g, 0, none⟩) n cap) n (flE (l.set i ⟨e.p, v⟩)) := by
  have hs := flE_set hl he v
  refine ⟨by rw [hs, List.length_set]; exact h.1, ?_⟩
  rcases h.2 with ⟨h', _⟩ | ⟨g', cap', cur, h', hb, hh, hn, hm, hsz, ht⟩
  · cases h'
  · obtain ⟨rfl, rfl⟩ : g = g' ∧ cap = cap' := by
      injection h' with h1 h2 h3
      injection h1 with h1
      injection h1 with h1
      exact ⟨h1, h3⟩
    refine .inr ⟨g, cap, cur.setIfInBounds (i * 19 + 18) (.int .i64 v), rfl, hb, blk_put hh _ _ rfl, hn, hm, by rw [Array.size_setIfInBounds]; exact hsz, ?_⟩
    rw [Array.toList_setIfInBounds, List.take_set, ht, hs]
theorem own_far {w : World} {base n T j : Nat} {te : TypeId} {v u : Value} {xs : List Value} (h : w.ownsRow base te 19 v n xs) (hn : v.ownBlock ≠ some T) : (w.setCell ⟨T, j, none⟩ u).ownsRow base te 19 v n xs :=
  h.kept (row := some T) ⟨rfl, rfl, rfl, by unfold World.setCell; simp, fun k _ hk => Below.heap_setCell w _ _ k (fun e => hk (by rw [e]))⟩ (.inr hn)
theorem lE_v {e : En} (he : e.p.a.ok) : (lE e)[18]? = some (.int .i64 e.v) := by
  unfold lE
  rw [List.getElem?_append_right (by rw [lP_len he]; exact Nat.le_refl _), lP_len he]
  rfl
theorem inE_at (l : List En) (i : Nat) (x : En) (hi : i ≤ l.length) : (inE l i x)[i]? = some x := by
  unfold inE
  rw [List.getElem?_append_right (by rw [List.length_take, Nat.min_eq_left hi]; exact Nat.le_refl _), List.length_take, Nat.min_eq_left hi, Nat.sub_self]
  rfl
theorem set_new {l : List En} (hl : okE l) (hs : Sorted l) {p : Pf} (hp : p.a.ok) {i : Nat} (h : Found l p i false) (v : Int) : (inE l i ⟨p, 0⟩).set i ⟨(⟨p, 0⟩ : En).p, v⟩ = setE l p v := by
  obtain ⟨h1, h2, _⟩ := found_no hl hs hp h
  unfold setE inE
  have hlt : (l.take i).length = i := by rw [List.length_take, Nat.min_eq_left h.le]
  rw [h1, h2, List.set_append_right _ _ (by rw [hlt]; exact Nat.le_refl _), hlt, Nat.sub_self, List.set_cons_zero]
theorem set_old {l : List En} (hl : okE l) (hs : Sorted l) {p : Pf} (hp : p.a.ok) {i : Nat} (h : Found l p i true) {x : En} (hx : l[i]? = some x) (v : Int) : l.set i ⟨x.p, v⟩ = setE l p v := by
  obtain ⟨y, hy, hyp, h1, h2, _⟩ := found_yes hl hs hp h
  rw [hx] at hy
  cases hy
  obtain ⟨hi, hie⟩ := List.getElem?_eq_some_iff.1 hx
  have hlt : (l.take i).length = i := by rw [List.length_take, Nat.min_eq_left h.le]
  unfold setE
  rw [h1, h2, ← hyp]
  conv => lhs; rw [← List.take_append_drop i l, List.drop_eq_getElem_cons hi]
  rw [List.set_append_right _ _ (by rw [hlt]; exact Nat.le_refl _), hlt, Nat.sub_self, List.set_cons_zero]
theorem built_en16 (f n b0 b1 b2 b3 b4 b5 b6 b7 b8 b9 b10 b11 b12 b13 b14 b15 : Int) : Try.prog.built 42 [(0, .agg (eP ⟨⟨f, [b0, b1, b2, b3, b4, b5, b6, b7, b8, b9, b10, b11, b12, b13, b14, b15]⟩, n⟩))] = some (eE ⟨⟨⟨f, [b0, b1, b2, b3, b4, b5, b6, b7, b8, b9, b10, b11, b12, b13, b14, b15]⟩, n⟩, 0⟩) := by kernel_rfl
theorem built_en {p : Pf} (hp : p.a.ok) : Try.prog.built 42 [(0, .agg (eP p))] = some (eE ⟨p, 0⟩) := by
  obtain ⟨⟨f, bs⟩, n⟩ := p
  match bs, hp.1 with
  | [b0, b1, b2, b3, b4, b5, b6, b7, b8, b9, b10, b11, b12, b13, b14, b15], _ => exact built_en16 f n b0 b1 b2 b3 b4 b5 b6 b7 b8 b9 b10 b11 b12 b13 b14 b15
theorem fill_en16 (f n v b0 b1 b2 b3 b4 b5 b6 b7 b8 b9 b10 b11 b12 b13 b14 b15 : Int) : Instr.fill (fun i => some (i * 19, 19)) ((Array.range (1 * 19)).map ((Value.agg (eE noE)).cells[· % (Value.agg (eE noE)).cells.size]!)) [(0, .agg (eE ⟨⟨⟨f, [b0, b1, b2, b3, b4, b5, b6, b7, b8, b9, b10, b11, b12, b13, b14, b15]⟩, n⟩, v⟩))] = some (eE ⟨⟨⟨f, [b0, b1, b2, b3, b4, b5, b6, b7, b8, b9, b10, b11, b12, b13, b14, b15]⟩, n⟩, v⟩) := by kernel_rfl
theorem fill_en {e : En} (he : e.p.a.ok) : Instr.fill (fun i => some (i * 19, 19)) ((Array.range (1 * 19)).map ((Value.agg (eE noE)).cells[· % (Value.agg (eE noE)).cells.size]!)) [(0, .agg (eE e))] = some (eE e) := by
  obtain ⟨⟨⟨f, bs⟩, n⟩, v⟩ := e
  match bs, he.1 with
  | [b0, b1, b2, b3, b4, b5, b6, b7, b8, b9, b10, b11, b12, b13, b14, b15], _ => exact fill_en16 f n v b0 b1 b2 b3 b4 b5 b6 b7 b8 b9 b10 b11 b12 b13 b14 b15
set_option maxRecDepth 100000 in
theorem run_build_en {o : Oper} {a : Act} {w : World} {x : Operand} {p : Pf} (ho : o.op = .build 42 #[(0, x)]) (hx : a.eval x = .agg (eP p)) (hp : p.a.ok) : (execOp a.eval o).run Try.prog w = .ok (.value (.agg (eE ⟨p, 0⟩))) w := by
  have hb : Try.prog.built 42 ((#[(0, x)] : Array (Nat × Operand)).map fun (i, y) => (i, a.eval y)).toList = some (eE ⟨p, 0⟩) := by
    simp only [List.map_toArray, List.map_cons, List.map_nil, hx]
    exact built_en hp
  unfold execOp
  simp only [ho, Sem.run_bind, run_build w _ _ _ hb, Result.andThen_ok]
  simp
theorem wp_lit_en {o : Oper} {a : Act} {w : World} {K : Act → World → Prop} {Q : Exit → Act → World → Prop} (x : Operand) (ho : o.op = .buildSlice 50 1 #[(0, x)]) (e : En) (he : e.p.a.ok) (hx : a.eval x = .agg (eE e))
    (h : K (a.put o.dst (.slice (some ⟨w.heap.size, 0, none⟩) 1 1)) (w.alloc (.cells (eE e) 42))) : o.wp Try.prog a w K Q := by
  obtain ⟨i0, hi, hz0, hz1, hz2⟩ := info_parts info_En
  refine wp_buildSlice 50 42 1 _ ho (eE e) i0 (.agg (eE noE)) Try.underlying50 hi hz0 (by rw [hz1]; decide) (by rw [hz1]; decide) ?_ h
  rw [hz1]
  simp only [List.map_toArray, List.map_cons, List.map_nil, hx]
  exact fill_en he
set_option maxHeartbeats 8000000 in
set_option maxRecDepth 100000 in
theorem table_Set_no (T base : Nat) (st : Int) (sv : Value) (l : List En) (p : Pf) (hp : p.a.ok) (v : Int) (w : World) (hm : mayQ p = false) :
    Calls Try.prog 21 #[.pointer (some ⟨T, 0, none⟩), .agg (eP p), .int .i64 v] w fun r w' => r = .returned (.int .i64 1) ∧ Below w.heap.size w w' := by
  have HB := Aside0.mk (Below.refl w.heap.size w)
  have HP := Aside0.mk hp
  have HM := Aside0.mk hm
  clear hp hm
  go_enter Try.func21, Try.ntmps21
  go_wp2_with (first
    | ((with_reducible refine gate_dst (N := 4) rfl ?_); refine box_event ?hg (N := 4) ?hd (cs := eP p) (t := 39) ?hr ?_; (case hd => rfl); (case hg => rfl); (case hr => first | (go_simp; done) | (go_simp; rfl)); intro g4 hg w1 hbox hb; have HX := Aside0.mk hbox; replace HB := Aside0.mk (below_step (bel_later HB.out) hb); clear hb hg hbox)
    | ((with_reducible refine gate_dst (N := 9) rfl ?_); refine wpList_load_row rfl 39 (.tmp 4) rfl g4 rfl 39 (eP p) (0, 0) _ HX.out Try.underlying39 rfl (infoEP HP.out) ?_)
    | (go_at_call 48; refine (cidr_May p HP.out _).mono ?_; rintro r w2 ⟨rfl, hb⟩; rw [HM.out]; replace HB := Aside0.mk (below_step HB.out hb); clear hb))
  go_ret
  exact ⟨rfl, HB.out⟩
set_option maxHeartbeats 8000000 in
set_option maxRecDepth 100000 in
theorem table_Set_new' (T base : Nat) (st : Int) (sv : Value) (l : List En) (p : Pf) (hp : p.a.ok) (v : Int) (w : World) (ht : Tb w T base st sv l) (hs : Sorted l) (hn : l.length ≤ 1000) (hm : mayQ p = true) (hh : hasE l p = false) (hb0 : base ≤ w.heap.size) :
    Calls Try.prog 21 #[.pointer (some ⟨T, 0, none⟩), .agg (eP p), .int .i64 v] w fun r w' => r = .returned (.int .i64 0) ∧ (∃ sv', Tb w' T base st sv' (setE l p v)) ∧ Chg T base w w' ∧ Shp T sv w w' := by
  have HB := Aside0.mk (Below.refl w.heap.size w)
  have HP := Aside0.mk hp
  have HM := Aside0.mk hm
  have HT := Aside0.mk ht
  have HS := Aside0.mk hs
  have HN := Aside0.mk hn
  have HH := Aside0.mk hh
  have HB0 := Aside0.mk hb0
  clear hp hm ht hs hn hh hb0
  go_enter Try.func21, Try.ntmps21
  go_wp2_with (first
    | ((with_reducible refine gate_dst (N := 4) rfl ?_); refine box_event ?hg (N := 4) ?hd (cs := eP p) (t := 39) ?hr ?_; (case hd => rfl); (case hg => rfl); (case hr => first | (go_simp; done) | (go_simp; rfl)); intro g4 hg w1 hbox hb; have HX := Aside0.mk hbox; have HG4T := Aside0.mk (show g4 ≠ T by rw [hg]; exact Ne.symm (Nat.ne_of_lt (blk_lt (blk_later HT.out.blk)))); replace HT := Aside0.mk (tb_below HT.out (below_step (bel_later (Below.refl _ _)) hb)); replace HB := Aside0.mk (below_step (bel_later HB.out) hb); clear hb hg hbox)
    | ((with_reducible refine gate_dst (N := 9) rfl ?_); refine wpList_load_row rfl 39 (.tmp 4) rfl g4 rfl 39 (eP p) (0, 0) _ HX.out Try.underlying39 rfl (infoEP HP.out) ?_)
    | (go_at_call 48; refine (cidr_May p HP.out _).mono ?_; rintro r w2 ⟨rfl, hb⟩; rw [HM.out]; replace HT := Aside0.mk (tb_below HT.out hb); replace HX := Aside0.mk (blk_below HX.out hb); replace HB := Aside0.mk (below_step HB.out hb); clear hb)
    | ((with_reducible refine gate_dst (N := 14) rfl ?_); refine wpList_load_row rfl 39 (.tmp 4) rfl g4 rfl 39 (eP p) (0, 0) _ HX.out Try.underlying39 rfl (infoEP HP.out) ?_)
    | (go_at_call 49; refine (tab_at T base st sv l p HP.out _ HT.out HS.out (by have := HN.out; omega)).mono ?_; rintro r w3 ⟨rfl, hb⟩; rw [HH.out]; replace HT := Aside0.mk (tb_below HT.out hb); replace HX := Aside0.mk (blk_below HX.out hb); replace HB := Aside0.mk (below_step HB.out hb); clear hb))
  obtain ⟨i, hi⟩ : ∃ i, idxE l p = i := ⟨_, rfl⟩
  have HI := Aside0.mk hi
  have HFO := Aside0.mk (by have := found_pure HT.out.ok HS.out HP.out; rw [HH.out, hi] at this; exact this)
  rw [hi]
  clear hi
  obtain ⟨S, hS⟩ : ∃ S : World → Prop, S = fun w' => w'.heap[g4]? = some (.cells (eP p) 39 (0, 0)) := ⟨_, rfl⟩
  have HSx := Aside0.mk (show ∀ x : World, S x → x.heap[g4]? = some (.cells (eP p) 39 (0, 0)) by intro b h; rw [hS] at h; exact h)
  have HSy := Aside0.mk (show ∀ x : World, x.heap[g4]? = some (.cells (eP p) 39 (0, 0)) → S x by intro b h; rw [hS]; exact h)
  clear hS
  have s0 : S w3.drew := HSy.out _ (blk_later HX.out)
  refine wp_region_held_drew (S := S) (by kernel_rfl) s0 (fun _ => ?_)
  refine wpAnyH_take (i := 0) (v := .pointer (some ⟨T, 0, none⟩)) rfl (by kernel_rfl) (by kernel_rfl) (by kernel_rfl) (fun _ _ _ h => h) (Or.inl ⟨by kernel_rfl, fun w' h => by first | (go_simp; done) | (go_simp; rfl)⟩) s0 ?_
  (try simp only [Act.put, List.getElem_toArray, List.getElem_cons_succ, List.getElem_cons_zero, List.setIfInBounds_toArray, List.set_cons_zero, List.set_cons_succ])
  refine wpAnyH_take (i := 1) (v := .pointer (some ⟨T, 0, none⟩)) rfl (by kernel_rfl) (by kernel_rfl) (by kernel_rfl) (fun _ _ _ h => h) (Or.inl ⟨by kernel_rfl, fun w' h => by first | (go_simp; done) | (go_simp; rfl)⟩) s0 ?_
  (try simp only [Act.put, List.getElem_toArray, List.getElem_cons_succ, List.getElem_cons_zero, List.setIfInBounds_toArray, List.set_cons_zero, List.set_cons_succ])
  refine wpAnyH_take (i := 2) (v := .pointer (some ⟨T, 0, none⟩)) rfl (by kernel_rfl) (by kernel_rfl) (by kernel_rfl) (fun _ _ _ h => h) (Or.inl ⟨by kernel_rfl, fun w' h => by first | (go_simp; done) | (go_simp; rfl)⟩) s0 ?_
  (try simp only [Act.put, List.getElem_toArray, List.getElem_cons_succ, List.getElem_cons_zero, List.setIfInBounds_toArray, List.set_cons_zero, List.set_cons_succ])
  refine wpAnyH_take (i := 3) (v := .pointer (some ⟨T, 0, none⟩)) rfl (by kernel_rfl) (by kernel_rfl) (by kernel_rfl) (fun _ _ _ h => h) (Or.inl ⟨by kernel_rfl, fun w' h => by first | (go_simp; done) | (go_simp; rfl)⟩) s0 ?_
  (try simp only [Act.put, List.getElem_toArray, List.getElem_cons_succ, List.getElem_cons_zero, List.setIfInBounds_toArray, List.set_cons_zero, List.set_cons_succ])
  refine wpAnyH_take (i := 5) (v := .int .i64 (i : Int)) rfl (by kernel_rfl) (by kernel_rfl) (by kernel_rfl) (fun _ _ _ h => h) (Or.inl ⟨by kernel_rfl, fun w' h => by first | (go_simp; done) | (go_simp; rfl)⟩) s0 ?_
  (try simp only [Act.put, List.getElem_toArray, List.getElem_cons_succ, List.getElem_cons_zero, List.setIfInBounds_toArray, List.set_cons_zero, List.set_cons_succ])
  refine wpAnyH_take (i := 6) (v := .agg (eP p)) rfl ?q6b ?q6c ?q6d (fun _ _ _ h => h) ?q6e s0 ?q6f
  case q6b => kernel_rfl
  case q6c => kernel_rfl
  case q6d => kernel_rfl
  case q6e => exact yields_row (by kernel_rfl) 39 (.tmp 4) rfl g4 rfl 39 (eP p) (0, 0) _ (fun w' h => HSx.out w' h) Try.underlying39 rfl (infoEP HP.out)
  (try simp only [Act.put, List.getElem_toArray, List.getElem_cons_succ, List.getElem_cons_zero, List.setIfInBounds_toArray, List.set_cons_zero, List.set_cons_succ])
  refine wpAnyH_take (i := 7) (v := .agg (eE ⟨p, 0⟩)) rfl (by kernel_rfl) (by kernel_rfl) (by kernel_rfl) (fun _ _ _ h => h) (Or.inl ⟨by kernel_rfl, fun w' h => run_build_en rfl rfl HP.out⟩) s0 ?_
  (try simp only [Act.put, List.getElem_toArray, List.getElem_cons_succ, List.getElem_cons_zero, List.setIfInBounds_toArray, List.set_cons_zero, List.set_cons_succ])
  refine anyH_at (R := fun x => S x ∧ Tb x T base st sv l ∧ Below w.heap.size w x) ⟨s0, tb_below HT.out (bel_later (Below.refl _ _)), bel_later HB.out⟩ (fun w4 h4 => ?_)
  clear s0
  have s0 := h4.1
  have HT3 := Aside0.mk h4.2.1
  have HB3 := Aside0.mk h4.2.2
  clear h4
  have h0 : w4.cell? ⟨T, 0, none⟩ = some sv := blk_cell HT3.out.blk 0
  have HB4 := Aside0.mk (show Below w4.heap.size w4 (w4.alloc (.cells (eE ⟨p, 0⟩) 42)) from below_alloc (Below.refl _ _) _)
  have HT4 := Aside0.mk (tb_below HT3.out HB4.out)
  have HV4 := Aside0.mk (heap_alloc_new w4 (.cells (eE ⟨p, 0⟩) 42))
  have h1 : (w4.alloc (.cells (eE ⟨p, 0⟩) 42)).cell? ⟨T, 0, none⟩ = some sv := blk_cell HT4.out.blk 0
  have s4 : S (w4.alloc (.cells (eE ⟨p, 0⟩) 42)) := HSy.out _ (blk_below (HSx.out _ s0) HB4.out)
  refine wpAnyH_ready (rs := [4, 8]) (by kernel_rfl) (by simp) (AllReadyH.cons rfl (fun K hK => ?_) (AllReadyH.cons rfl (fun K hK => ?_) AllReadyH.nil))
  rw [if_pos (by kernel_rfl)]
  refine wp_value_run (v := sv) (w1 := w4) (by first | (go_simp; done) | (go_simp; rfl)) ?_
  refine hK.out _ _ s0 (fun _ => ?_)
  clear hK K
  (try simp only [Act.put, List.getElem_toArray, List.getElem_cons_succ, List.getElem_cons_zero, List.setIfInBounds_toArray, List.set_cons_zero, List.set_cons_succ])
  refine held_step (i := 8) (by kernel_rfl) rfl (by kernel_rfl) (fun K hK => ?_)
  refine wp_lit_en (.tmp 27) rfl ⟨p, 0⟩ HP.out rfl ?_
  refine hK.out _ _ s4 ?_
  clear hK K
  (try simp only [Act.put, List.getElem_toArray, List.getElem_cons_succ, List.getElem_cons_zero, List.setIfInBounds_toArray, List.set_cons_zero, List.set_cons_succ])
  rotate_left
  rw [if_pos (by kernel_rfl)]
  refine wp_lit_en (.tmp 27) rfl ⟨p, 0⟩ HP.out rfl ?_
  refine hK.out _ _ s4 (fun _ => ?_)
  clear hK K
  (try simp only [Act.put, List.getElem_toArray, List.getElem_cons_succ, List.getElem_cons_zero, List.setIfInBounds_toArray, List.set_cons_zero, List.set_cons_succ])
  refine held_step (i := 4) (by kernel_rfl) rfl (by kernel_rfl) (fun K hK => ?_)
  refine wp_value_run (v := sv) (w1 := w4.alloc (.cells (eE ⟨p, 0⟩) 42)) (by first | (go_simp; done) | (go_simp; rfl)) ?_
  refine hK.out _ _ s4 ?_
  clear hK K
  (try simp only [Act.put, List.getElem_toArray, List.getElem_cons_succ, List.getElem_cons_zero, List.setIfInBounds_toArray, List.set_cons_zero, List.set_cons_succ])
  all_goals
    refine anyH_at (R := fun x => S x ∧ Tb x T base st sv l ∧ Below w.heap.size w x ∧ x.heap[w4.heap.size]? = some (.cells (eE ⟨p, 0⟩) 42 (0, 0))) ⟨s4, HT4.out, below_step HB3.out HB4.out, HV4.out⟩ (fun w5 h5 => ?_)
    clear h0 h1 s0 s4
    have s0 := h5.1
    have HT5 := Aside0.mk h5.2.1
    have HB5 := Aside0.mk h5.2.2.1
    have HV5 := Aside0.mk h5.2.2.2
    clear h5
    have HVN := Aside0.mk (show some w4.heap.size ≠ sv.ownBlock by
      intro e
      have := (HT3.out.row.lt _ e.symm).2
      omega)
    refine held_step (i := 9) (by kernel_rfl) rfl (by kernel_rfl) (fun K hK => ?_)
    go_simp
    refine (ins_all base i l HT5.out.ok ⟨p, 0⟩ HP.out sv w4.heap.size w5 HT5.out.row HFO.out.le HV5.out HVN.out (by have := HN.out; omega) (Nat.le_trans HB0.out (below_size HB5.out))).mono ?_
    rintro r w6 ⟨v', rfl, hrow, hgr⟩
    obtain ⟨g, cap, cur, rfl, hbg, hgg⟩ := own_some hrow
    have HGG := Aside0.mk (show base ≤ g ∧ w6.heap[g]? = some (.cells cur 42 (0, 0)) from ⟨hbg, hgg⟩)
    clear hbg hgg
    have HRW := Aside0.mk hrow
    have HC6 := Aside0.mk (chg_grown (T := T) HT5.out.row hgr)
    have HTB := Aside0.mk ((hgr.block T (Array.getElem?_eq_some_iff.1 HT5.out.blk).1 (own_ne HT5.out.row HT5.out.blk (.inr (fun cs fr e => by cases e)))).trans HT5.out.blk)
    have s1 : S w6 := HSy.out _ (HC6.out.block g4 _ HG4T.out (HSx.out _ s0) (.inr (fun cs fr e => by cases e)))
    have HP6 := Aside0.mk (shp_grown (T := T) HB5.out hgr)
    clear hrow hgr
    refine hK.out _ _ s1 ?_
    clear hK K
    (try simp only [Act.put, List.getElem_toArray, List.getElem_cons_succ, List.getElem_cons_zero, List.setIfInBounds_toArray, List.set_cons_zero, List.set_cons_succ])
    refine wpAnyH_take (i := 10) (v := .pointer (some ⟨T, 0, none⟩)) rfl (by kernel_rfl) (by kernel_rfl) (by kernel_rfl) (fun _ _ _ h => h) (Or.inl ⟨by kernel_rfl, fun w' h => by first | (go_simp; done) | (go_simp; rfl)⟩) s1 ?_
    (try simp only [Act.put, List.getElem_toArray, List.getElem_cons_succ, List.getElem_cons_zero, List.setIfInBounds_toArray, List.set_cons_zero, List.set_cons_succ])
    refine wpAnyH_take (i := 11) (v := .pointer (some ⟨T, 0, none⟩)) rfl (by kernel_rfl) (by kernel_rfl) (by kernel_rfl) (fun _ _ _ h => h) (Or.inl ⟨by kernel_rfl, fun w' h => by first | (go_simp; done) | (go_simp; rfl)⟩) s1 ?_
    (try simp only [Act.put, List.getElem_toArray, List.getElem_cons_succ, List.getElem_cons_zero, List.setIfInBounds_toArray, List.set_cons_zero, List.set_cons_succ])
    have hx : w6.cell? ⟨T, 0, none⟩ = some sv := blk_cell HTB.out 0
    have hfz := blk_frozen HTB.out 0
    have HS2 := Aside0.mk (show S (w6.setCell ⟨T, 0, none⟩ (.slice (some ⟨g, 0, none⟩) (l.length + 1) cap)) from HSy.out _ ((Below.heap_setCell w6 _ _ g4 HG4T.out).trans (HSx.out _ s1)))
    refine held_step (i := 12) (by kernel_rfl) rfl (by kernel_rfl) (fun K hK => ?_)
    go_wp2
    refine hK.out _ _ HS2.out ?_
    clear hK K
    (try simp only [Act.put, List.getElem_toArray, List.getElem_cons_succ, List.getElem_cons_zero, List.setIfInBounds_toArray, List.set_cons_zero, List.set_cons_succ])
    refine wpAnyH_done (by kernel_rfl) ?_ _
    clear s0 s1 hx hfz
    have HGT := Aside0.mk (show T ≠ g by
      intro e
      subst e
      have h1 := HTB.out
      rw [HGG.out.2] at h1
      cases h1)
    have HT7 := Aside0.mk (blk_put HTB.out 0 (.slice (some ⟨g, 0, none⟩) (l.length + 1) cap) rfl)
    have HR7 := Aside0.mk (own_far HRW.out (u := .slice (some ⟨g, 0, none⟩) (l.length + 1) cap) (j := 0) (fun e => HGT.out (Option.some.inj e).symm))
    have HG7 := Aside0.mk ((Below.heap_setCell w6 ⟨T, 0, none⟩ (.slice (some ⟨g, 0, none⟩) (l.length + 1) cap) g (Ne.symm HGT.out)).trans HGG.out.2)
    have HC7 := Aside0.mk (chg_trans (chg_trans (chg_below (T := T) (base := base) HB5.out) HC6.out) (chg_tab (j := 0) (v := .slice (some ⟨g, 0, none⟩) (l.length + 1) cap)))
    have HP7 := Aside0.mk (shp_cell (g := T) (j := 0) (v := .slice (some ⟨g, 0, none⟩) (l.length + 1) cap) HP6.out)
    generalize w6.setCell ⟨T, 0, none⟩ (.slice (some ⟨g, 0, none⟩) (l.length + 1) cap) = w7 at HT7 HR7 HG7 HC7 HP7 ⊢
    have HE := Aside0.mk (show (inE l i ⟨p, 0⟩)[i]? = some ⟨p, 0⟩ from inE_at l i ⟨p, 0⟩ HFO.out.le)
    have HOI := Aside0.mk (ok_inE HT5.out.ok i (x := ⟨p, 0⟩) HP.out)
    have HSE := Aside0.mk (set_new HT5.out.ok HS.out HP.out HFO.out v)
    have h0 : w7.cell? ⟨T, 0, none⟩ = some (.slice (some ⟨g, 0, none⟩) (l.length + 1) cap) := blk_cell HT7.out 0
    have hidx := fun w => idx_en g (l.length + 1) cap i w (by have := HFO.out.le; omega)
    have hx : w7.cell? ⟨g, i * 19 + 18, none⟩ = some (.int .i64 0) := by
      have := HR7.out.cells (g := g) rfl (i * 19 + 18) _ (flE_get HOI.out HE.out (lE_v HP.out))
      rwa [add_plain] at this
    have hfz := blk_frozen HG7.out (i * 19 + 18)
    go_wp2
    go_ret
    have hv := own_value HR7.out HOI.out HE.out v
    refine ⟨rfl, ⟨.slice (some ⟨g, 0, none⟩) (l.length + 1) cap, (Below.heap_setCell w7 _ _ T HGT.out).trans HT7.out, ?_, ok_setE HT5.out.ok HP.out v⟩, chg_trans HC7.out (chg_row HGG.out.1 HG7.out), shp_cell HP7.out⟩
    rw [← HSE.out, List.length_set, inE_length l i _ HFO.out.le]
    exact hv
theorem table_Set_new (T base : Nat) (st : Int) (sv : Value) (l : List En) (p : Pf) (hp : p.a.ok) (v : Int) (w : World) (ht : Tb w T base st sv l) (hs : Sorted l) (hn : l.length ≤ 1000) (hm : mayQ p = true) (hh : hasE l p = false) (hb0 : base ≤ w.heap.size) :
    Calls Try.prog 21 #[.pointer (some ⟨T, 0, none⟩), .agg (eP p), .int .i64 v] w fun r w' => r = .returned (.int .i64 0) ∧ (∃ sv', Tb w' T base st sv' (setE l p v)) ∧ Chg T base w w' :=
  (table_Set_new' T base st sv l p hp v w ht hs hn hm hh hb0).mono fun r w' ⟨h1, h2, h3, _⟩ => ⟨h1, h2, h3⟩
theorem row_blk {w : World} {base g n cap : Nat} {te : TypeId} {xs : List Value} (h : w.ownsRow base te 19 (.slice (some ⟨g, 0, none⟩) n cap) n xs) : ∃ cur, w.heap[g]? = some (.cells cur te (0, 0)) := by
  rcases h.2 with ⟨h', _⟩ | ⟨g', cap', cur, h', _, hh, _⟩
  · cases h'
  · injection h' with h1 h2 h3
    injection h1 with h1
    injection h1 with h1
    subst h1
    exact ⟨cur, hh⟩
theorem row_frozen {w : World} {base g n cap j : Nat} {te : TypeId} {xs : List Value} (h : w.ownsRow base te 19 (.slice (some ⟨g, 0, none⟩) n cap) n xs) : w.frozen? ⟨g, j, none⟩ = false := by
  obtain ⟨cur, hg⟩ := row_blk h
  exact blk_frozen hg j
set_option maxHeartbeats 8000000 in
set_option maxRecDepth 100000 in
theorem table_Set_old (T base : Nat) (st : Int) (sv : Value) (l : List En) (p : Pf) (hp : p.a.ok) (v : Int) (w : World) (ht : Tb w T base st sv l) (hs : Sorted l) (hn : l.length ≤ 1000) (hm : mayQ p = true) (hh : hasE l p = true) (hb0 : base ≤ w.heap.size) :
    Calls Try.prog 21 #[.pointer (some ⟨T, 0, none⟩), .agg (eP p), .int .i64 v] w fun r w' => r = .returned (.int .i64 0) ∧ (∃ sv', Tb w' T base st sv' (setE l p v)) ∧ Chg T base w w' := by
  have HB := Aside0.mk (Below.refl w.heap.size w)
  have HP := Aside0.mk hp
  have HM := Aside0.mk hm
  have HT := Aside0.mk ht
  have HS := Aside0.mk hs
  have HN := Aside0.mk hn
  have HH := Aside0.mk hh
  have HB0 := Aside0.mk hb0
  clear hp hm ht hs hn hh hb0
  have HFO0 := Aside0.mk (found_pure HT.out.ok HS.out HP.out)
  obtain ⟨i, hi⟩ : ∃ i, idxE l p = i := ⟨_, rfl⟩
  have HI := Aside0.mk hi
  have HFO := Aside0.mk (by have := HFO0.out; rw [HH.out, hi] at this; exact this)
  obtain ⟨x, hx, hxp, _, _, _, _, _⟩ := found_yes HT.out.ok HS.out HP.out HFO.out
  have HXX := Aside0.mk hx
  have HOX := Aside0.mk (HT.out.ok x (List.mem_of_getElem? hx))
  have HSE := Aside0.mk (set_old HT.out.ok HS.out HP.out HFO.out hx v)
  obtain ⟨m, hm1⟩ : ∃ m, l.length = m + 1 := ⟨l.length - 1, by have := (List.getElem?_eq_some_iff.1 hx).1; omega⟩
  have hrow0 := HT.out.row
  rw [hm1] at hrow0
  obtain ⟨g, cap, cur0, hsv, hbg, hgg0⟩ := own_some hrow0
  rw [← hm1] at hsv
  subst hsv
  have hidx := fun w => idx_en g l.length cap i w (List.getElem?_eq_some_iff.1 hx).1
  have HBG := Aside0.mk hbg
  clear hx hxp hrow0 hgg0 hbg hi hm1
  go_enter Try.func21, Try.ntmps21
  go_wp2_with (first
    | ((with_reducible refine gate_dst (N := 4) rfl ?_); refine box_event ?hg (N := 4) ?hd (cs := eP p) (t := 39) ?hr ?_; (case hd => rfl); (case hg => rfl); (case hr => first | (go_simp; done) | (go_simp; rfl)); intro g4 hg w1 hbox hb; have HX := Aside0.mk hbox; have HG4T := Aside0.mk (show g4 ≠ T by rw [hg]; exact Ne.symm (Nat.ne_of_lt (blk_lt (blk_later HT.out.blk)))); replace HT := Aside0.mk (tb_below HT.out (below_step (bel_later (Below.refl _ _)) hb)); replace HB := Aside0.mk (below_step (bel_later HB.out) hb); clear hb hg hbox)
    | ((with_reducible refine gate_dst (N := 9) rfl ?_); refine wpList_load_row rfl 39 (.tmp 4) rfl g4 rfl 39 (eP p) (0, 0) _ HX.out Try.underlying39 rfl (infoEP HP.out) ?_)
    | (go_at_call 48; refine (cidr_May p HP.out _).mono ?_; rintro r w2 ⟨rfl, hb⟩; rw [HM.out]; replace HT := Aside0.mk (tb_below HT.out hb); replace HX := Aside0.mk (blk_below HX.out hb); replace HB := Aside0.mk (below_step HB.out hb); clear hb)
    | ((with_reducible refine gate_dst (N := 14) rfl ?_); refine wpList_load_row rfl 39 (.tmp 4) rfl g4 rfl 39 (eP p) (0, 0) _ HX.out Try.underlying39 rfl (infoEP HP.out) ?_)
    | (go_at_call 49; refine (tab_at T base st _ l p HP.out _ HT.out HS.out (by have := HN.out; omega)).mono ?_; rintro r w3 ⟨rfl, hb⟩; rw [HH.out, HI.out]; replace HT := Aside0.mk (tb_below HT.out hb); replace HX := Aside0.mk (blk_below HX.out hb); replace HB := Aside0.mk (below_step HB.out hb); have h0 : w3.cell? ⟨T, 0, none⟩ = some (.slice (some ⟨g, 0, none⟩) l.length cap) := blk_cell HT.out.blk 0; have hx : w3.cell? ⟨g, i * 19 + 18, none⟩ = some (.int .i64 x.v) := (by (have := HT.out.row.cells (g := g) rfl (i * 19 + 18) _ (flE_get HT.out.ok HXX.out (lE_v HOX.out))); rwa [add_plain] at this); have hfz : w3.frozen? ⟨g, i * 19 + 18, none⟩ = false := row_frozen HT.out.row; clear hb))
  go_ret
  have hv := own_value HT.out.row HT.out.ok HXX.out v
  have hne : T ≠ g := by
    intro e
    subst e
    obtain ⟨cur, hg⟩ := row_blk HT.out.row
    rw [HT.out.blk] at hg
    cases hg
  obtain ⟨cur, hg⟩ := row_blk HT.out.row
  refine ⟨rfl, ⟨.slice (some ⟨g, 0, none⟩) l.length cap, (Below.heap_setCell w3 _ _ T hne).trans HT.out.blk, ?_, ok_setE HT.out.ok HP.out v⟩, chg_trans (chg_below HB.out) (chg_row HBG.out hg)⟩
  rw [← HSE.out, List.length_set]
  exact hv
/-- A prefix's value is set, if it may be. -/
theorem table_Set (T base : Nat) (st : Int) (sv : Value) (l : List En) (p : Pf) (hp : p.a.ok) (v : Int) (w : World) (ht : Tb w T base st sv l) (hs : Sorted l) (hn : l.length ≤ 1000) (hb0 : base ≤ w.heap.size) :
    Calls Try.prog 21 #[.pointer (some ⟨T, 0, none⟩), .agg (eP p), .int .i64 v] w fun r w' => r = .returned (.int .i64 (if mayQ p = true then 0 else 1)) ∧ (∃ sv', Tb w' T base st sv' (if mayQ p = true then setE l p v else l)) ∧ Chg T base w w' := by
  cases hm : mayQ p
  · refine (table_Set_no T base st sv l p hp v w hm).mono ?_
    rintro r w' ⟨rfl, hb⟩
    exact ⟨rfl, ⟨sv, tb_below ht hb⟩, chg_below hb⟩
  · cases hh : hasE l p
    · exact (table_Set_new T base st sv l p hp v w ht hs hn hm hh hb0).mono (fun r w' h => h)
    · exact (table_Set_old T base st sv l p hp v w ht hs hn hm hh hb0).mono (fun r w' h => h)
end Go.Proofs.Ythjhbhgfckaklaa.P
end
