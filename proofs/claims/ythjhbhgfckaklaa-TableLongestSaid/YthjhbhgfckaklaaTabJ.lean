/-
  The document's example.
-/
import Derived.Test.YthjhbhgfckaklaaTabI
namespace Go.Proofs.Ythjhbhgfckaklaa.P
open Go.RowKit Go.Proofs.YthjhbhgfckaklaaW.PrintWords Go.Proofs.YthjhbhgfckaklaaW.PrintLast Go.Proofs.YthjhbhgfckaklaaW.PrintMore
set_option linter.unusedVariables false
set_option linter.unusedSimpArgs false
theorem built_ef16 (f n v b0 b1 b2 b3 b4 b5 b6 b7 b8 b9 b10 b11 b12 b13 b14 b15 : Int) : Try.prog.built 42 [(0, .agg (eP ⟨⟨f, [b0, b1, b2, b3, b4, b5, b6, b7, b8, b9, b10, b11, b12, b13, b14, b15]⟩, n⟩)), (1, .int .i64 v)] = some (eE ⟨⟨⟨f, [b0, b1, b2, b3, b4, b5, b6, b7, b8, b9, b10, b11, b12, b13, b14, b15]⟩, n⟩, v⟩) := by kernel_rfl
theorem built_ef {p : Pf} (hp : p.a.ok) (v : Int) : Try.prog.built 42 [(0, .agg (eP p)), (1, .int .i64 v)] = some (eE ⟨p, v⟩) := by
  obtain ⟨⟨f, bs⟩, n⟩ := p
  match bs, hp.1 with
  | [b0, b1, b2, b3, b4, b5, b6, b7, b8, b9, b10, b11, b12, b13, b14, b15], _ => exact built_ef16 f n v b0 b1 b2 b3 b4 b5 b6 b7 b8 b9 b10 b11 b12 b13 b14 b15
set_option maxRecDepth 100000 in
theorem run_build_ef {o : Oper} {a : Act} {w : World} {x y : Operand} {p : Pf} {v : Int} (ho : o.op = .build 42 #[(0, x), (1, y)]) (hx : a.eval x = .agg (eP p)) (hy : a.eval y = .int .i64 v) (hp : p.a.ok) : (execOp a.eval o).run Try.prog w = .ok (.value (.agg (eE ⟨p, v⟩))) w := by
  have hb : Try.prog.built 42 ((#[(0, x), (1, y)] : Array (Nat × Operand)).map fun (i, y) => (i, a.eval y)).toList = some (eE ⟨p, v⟩) := by
    simp only [List.map_toArray, List.map_cons, List.map_nil, hx, hy]
    exact built_ef hp v
  unfold execOp
  simp only [ho, Sem.run_bind, run_build w _ _ _ hb, Result.andThen_ok]
  simp
theorem fill_two16 (f n v b0 b1 b2 b3 b4 b5 b6 b7 b8 b9 b10 b11 b12 b13 b14 b15 f' n' v' c0 c1 c2 c3 c4 c5 c6 c7 c8 c9 c10 c11 c12 c13 c14 c15 : Int) : Instr.fill (fun i => some (i * 19, 19)) ((Array.range (2 * 19)).map ((Value.agg (eE noE)).cells[· % (Value.agg (eE noE)).cells.size]!)) [(0, .agg (eE ⟨⟨⟨f, [b0, b1, b2, b3, b4, b5, b6, b7, b8, b9, b10, b11, b12, b13, b14, b15]⟩, n⟩, v⟩)), (1, .agg (eE ⟨⟨⟨f', [c0, c1, c2, c3, c4, c5, c6, c7, c8, c9, c10, c11, c12, c13, c14, c15]⟩, n'⟩, v'⟩))] = some (flE [⟨⟨⟨f, [b0, b1, b2, b3, b4, b5, b6, b7, b8, b9, b10, b11, b12, b13, b14, b15]⟩, n⟩, v⟩, ⟨⟨⟨f', [c0, c1, c2, c3, c4, c5, c6, c7, c8, c9, c10, c11, c12, c13, c14, c15]⟩, n'⟩, v'⟩]).toArray := by kernel_rfl
theorem fill_two {d e : En} (hd : d.p.a.ok) (he : e.p.a.ok) : Instr.fill (fun i => some (i * 19, 19)) ((Array.range (2 * 19)).map ((Value.agg (eE noE)).cells[· % (Value.agg (eE noE)).cells.size]!)) [(0, .agg (eE d)), (1, .agg (eE e))] = some (flE [d, e]).toArray := by
  obtain ⟨⟨⟨f, bs⟩, n⟩, v⟩ := d
  obtain ⟨⟨⟨f', cs⟩, n'⟩, v'⟩ := e
  match bs, hd.1, cs, he.1 with
  | [b0, b1, b2, b3, b4, b5, b6, b7, b8, b9, b10, b11, b12, b13, b14, b15], _, [c0, c1, c2, c3, c4, c5, c6, c7, c8, c9, c10, c11, c12, c13, c14, c15], _ => exact fill_two16 f n v b0 b1 b2 b3 b4 b5 b6 b7 b8 b9 b10 b11 b12 b13 b14 b15 f' n' v' c0 c1 c2 c3 c4 c5 c6 c7 c8 c9 c10 c11 c12 c13 c14 c15
theorem rd_lit {w : World} {g : Nat} {l : List En} (hl : okE l) (hg : w.heap[g]? = some (.cells (flE l).toArray 42 (0, 0))) (cap : Nat) : Rd w 50 (some ⟨g, 0, none⟩) l.length cap g l :=
  ⟨rfl, fun w i hi => idx_en g l.length cap i w hi, fun i e he => range_of_block hg (n := (flE l).length) (List.take_length) (fun j u hj => flE_get hl he hj)⟩
section
variable {ops : Array Oper} {rest : List Oper} {o : Oper} {a : Act} {w : World} {Q : Exit → Act → World → Prop}
theorem wp_build_ef (hgd : o.guard = none) (x y : Operand) (p : Pf) (v : Int) (ho : o.op = .build 42 #[(0, x), (1, y)]) (hx : a.eval x = .agg (eP p)) (hy : a.eval y = .int .i64 v) (hp : p.a.ok)
    (h : wpList Try.prog ops Q rest (a.put o.dst (.agg (eE ⟨p, v⟩))) w) : wpList Try.prog ops Q (o :: rest) a w := Kd.event_run hgd (run_build_ef ho hx hy hp) h
theorem wp_lit_two (hgd : o.guard = none) {N : Tmp} (_hd : o.dst = some N) (x y : Operand) (ho : o.op = .buildSlice 50 2 #[(0, x), (1, y)]) (d e : En) (hdd : d.p.a.ok) (he : e.p.a.ok) (hx : a.eval x = .agg (eE d)) (hy : a.eval y = .agg (eE e))
    (h : ∀ (vb : Nat) (w' : World), vb < w'.heap.size → Rd w' 50 (some ⟨vb, 0, none⟩) 2 2 vb [d, e] → Below w.heap.size w w' → wpList Try.prog ops Q rest (a.put o.dst (.slice (some ⟨vb, 0, none⟩) 2 2)) w') : wpList Try.prog ops Q (o :: rest) a w := by
  obtain ⟨i0, hi, hz0, hz1, hz2⟩ := info_parts info_En
  have hok : okE [d, e] := fun z hz => by
    rcases List.mem_cons.1 hz with rfl | hz
    · exact hdd
    · rw [List.mem_singleton] at hz; subst hz; exact he
  refine wpList_buildSlice hgd 50 42 2 _ ho (flE [d, e]).toArray i0 (.agg (eE noE)) Try.underlying50 hi hz0 (by rw [hz1]; decide) (by rw [hz1]; decide) ?_ (h w.heap.size _ (by simp) (rd_lit hok (heap_alloc_new w _) 2) (below_alloc (Below.refl _ _) _))
  rw [hz1]
  simp only [List.map_toArray, List.map_cons, List.map_nil, hx, hy]
  exact fill_two hdd he
end
def exA : Ad := of4 167772160
def exB : Ad := of4 167837696
def exC : Ad := of4 167838211
def exP : Pf := maskP exA 8
def exQ : Pf := maskP exB 16
def exL : List Eo := [⟨⟨exP, 1⟩, ok_maskP exA 8⟩, ⟨⟨exQ, 2⟩, ok_maskP exB 16⟩]
def exT : List En := newE [] (enE exL)
theorem lives_pure : ((findQ exT exC).getD noE).v = 2 ∧ (findQ exT exC).isSome = true := by constructor <;> kernel_rfl
theorem ok_findQ {l : List En} (hl : okE l) (a : Ad) : ((findQ l a).getD noE).p.a.ok := by
  have hg : ∀ p, ((getE l p).getD noE).p.a.ok := fun p => by
    cases h : getE l p with
    | none => exact ok_noE
    | some e => exact hl e (List.mem_of_find?_eq_some h)
  have hL : ∀ n, ((findL l a n).getD noE).p.a.ok := by
    intro n
    induction n with
    | zero => exact hg _
    | succ n ih => unfold findL; split; exact hg _; exact ih
  unfold findQ findI
  split
  · exact ok_noE
  · split
    · exact ok_noE
    · exact hL _
set_option maxHeartbeats 400000 in
set_option maxRecDepth 100000 in
theorem law_lives (w : World) : Calls Try.prog 23 #[] w fun r w' => r = .returned (.bool true) ∧ Below w.heap.size w w' := by
  have HB := Aside0.mk (Below.refl w.heap.size w)
  obtain ⟨xA, hA⟩ : ∃ x, x = exA := ⟨_, rfl⟩
  obtain ⟨xB, hB⟩ : ∃ x, x = exB := ⟨_, rfl⟩
  obtain ⟨xC, hC⟩ : ∃ x, x = exC := ⟨_, rfl⟩
  obtain ⟨xP, hP⟩ : ∃ x, x = exP := ⟨_, rfl⟩
  obtain ⟨xQ, hQ⟩ : ∃ x, x = exQ := ⟨_, rfl⟩
  have C1 := Aside0.mk (show ∀ w, Calls Try.prog 40 #[.int .u32 167772160] w fun e w' => e = .returned (.agg (eA xA)) ∧ Below w.heap.size w w' by rw [hA]; exact fun w => ref04_Of4 167772160 w)
  have C2 := Aside0.mk (show ∀ w, Calls Try.prog 40 #[.int .u32 167837696] w fun e w' => e = .returned (.agg (eA xB)) ∧ Below w.heap.size w w' by rw [hB]; exact fun w => ref04_Of4 167837696 w)
  have C3 := Aside0.mk (show ∀ w, Calls Try.prog 40 #[.int .u32 167838211] w fun e w' => e = .returned (.agg (eA xC)) ∧ Below w.heap.size w w' by rw [hC]; exact fun w => ref04_Of4 167838211 w)
  have D1 := Aside0.mk (show ∀ w, Calls Try.prog 19 #[.agg (eA xA), .int .i64 8] w fun e w' => e = .returned (.agg (eP xP)) ∧ Below w.heap.size w w' by rw [hA, hP]; exact fun w => ref05_Mask exA (ok_of4 _) 8 w)
  have D2 := Aside0.mk (show ∀ w, Calls Try.prog 19 #[.agg (eA xB), .int .i64 16] w fun e w' => e = .returned (.agg (eP xQ)) ∧ Below w.heap.size w w' by rw [hB, hQ]; exact fun w => ref05_Mask exB (ok_of4 _) 16 w)
  have HO1 := Aside0.mk (show xP.a.ok by rw [hP]; exact ok_maskP exA 8)
  have HO2 := Aside0.mk (show xQ.a.ok by rw [hQ]; exact ok_maskP exB 16)
  have HO3 := Aside0.mk (show xC.ok by rw [hC]; exact ok_of4 167838211)
  obtain ⟨xL, hL⟩ : ∃ L : List Eo, L = [⟨⟨xP, 1⟩, HO1.out⟩, ⟨⟨xQ, 2⟩, HO2.out⟩] := ⟨_, rfl⟩
  have HN := Aside0.mk (show ∀ w (vb : Nat), vb < w.heap.size → Rd w 50 (some ⟨vb, 0, none⟩) 2 2 vb [⟨xP, 1⟩, ⟨xQ, 2⟩] → Calls Try.prog 18 #[.slice (some ⟨vb, 0, none⟩) 2 2] w fun r w' => r = .returned (.pointer (some ⟨w.heap.size, 0, none⟩)) ∧ (∃ sv, Tb w' w.heap.size w.heap.size 0 sv (newE [] (enE xL))) ∧ Below w.heap.size w w' by
    rw [hL]
    exact fun w vb h1 h2 => table_New (some ⟨vb, 0, none⟩) 2 vb [⟨⟨xP, 1⟩, HO1.out⟩, ⟨⟨xQ, 2⟩, HO2.out⟩] (show (2 : Nat) ≤ 900 by decide) w h2 h1)
  obtain ⟨k1, k2, k3⟩ := newE_facts (enE xL) (ok_enE xL) [] (fun e he => by cases he) List.Pairwise.nil
  have HS := Aside0.mk k2
  have HNN := Aside0.mk (show (newE [] (enE xL)).length ≤ 1000 by
    have : (enE xL).length = 2 := by rw [hL]; rfl
    rw [List.length_nil] at k3
    omega)
  have HV := Aside0.mk (show ((findQ (newE [] (enE xL)) xC).getD noE).v = 2 ∧ (findQ (newE [] (enE xL)) xC).isSome = true by
    subst hL hP hQ hC
    exact lives_pure)
  have HOF := Aside0.mk (ok_findQ k1 xC)
  clear hA hB hC hP hQ hL k1 k2 k3
  obtain ⟨xT, hT⟩ : ∃ x, newE [] (enE xL) = x := ⟨_, rfl⟩
  rw [hT] at HS HNN HV HOF HN
  clear hT
  obtain ⟨fe, hfe⟩ : ∃ x, (findQ xT xC).getD noE = x := ⟨_, rfl⟩
  obtain ⟨fb, hfb⟩ : ∃ x, (findQ xT xC).isSome = x := ⟨_, rfl⟩
  have HF := Aside0.mk (show ∀ (T base : Nat) (st : Int) (v : Value) (w : World), Tb w T base st v xT → 0 ≤ st ∧ st ≤ 100000000 → Calls Try.prog 20 #[.pointer (some ⟨T, 0, none⟩), .agg (eA xC)] w fun r w' => ∃ m : Nat, r = .returned (.tuple #[.agg (eE fe), .bool fb]) ∧ m ≤ 129 * (blen xT.length + 1) ∧ Ticks T 1 w w' (st + (m : Int)) by
    rw [← hfe, ← hfb]
    exact fun T base st v w ht hst => table_Find T base st v xT xC HO3.out w ht HS.out HNN.out hst)
  rw [hfe, hfb] at HV
  rw [hfe] at HOF
  obtain ⟨hv1, rfl⟩ := HV.out
  have HV1 := Aside0.mk hv1
  clear hfe hfb hv1 HV
  go_enter Try.func23, Try.ntmps23
  go_wp2_with (first
    | (go_at_call 40; have CC := C1; clear C1; refine (CC.out _).mono ?_; rintro r w2 ⟨rfl, hb⟩; replace HB := Aside0.mk (below_step HB.out hb); clear hb CC)
    | (go_at_call 19; have CC := D1; clear D1; refine (CC.out _).mono ?_; rintro r w2 ⟨rfl, hb⟩; replace HB := Aside0.mk (below_step HB.out hb); clear hb CC)
    | ((with_reducible refine gate_dst (N := 6) rfl ?_); refine wp_build_ef rfl (.tmp 5) (.const (.int .i64 1)) xP 1 rfl rfl rfl HO1.out ?_)
    | (go_at_call 40; have CC := C2; clear C2; refine (CC.out _).mono ?_; rintro r w2 ⟨rfl, hb⟩; replace HB := Aside0.mk (below_step HB.out hb); clear hb CC)
    | (go_at_call 19; refine (D2.out _).mono ?_; rintro r w2 ⟨rfl, hb⟩; replace HB := Aside0.mk (below_step HB.out hb); clear hb)
    | ((with_reducible refine gate_dst (N := 9) rfl ?_); refine wp_build_ef rfl (.tmp 8) (.const (.int .i64 2)) xQ 2 rfl rfl rfl HO2.out ?_)
    | ((with_reducible refine gate_dst (N := 10) rfl ?_); refine wp_lit_two rfl (N := 10) rfl (.tmp 6) (.tmp 9) rfl ⟨xP, 1⟩ ⟨xQ, 2⟩ HO1.out HO2.out rfl rfl ?_; intro vb w5 hvb hrd hb; replace HB := Aside0.mk (below_step HB.out hb); have HVB := Aside0.mk hvb; have HRD := Aside0.mk hrd; clear hb hvb hrd)
    | (go_at_call 18; refine (HN.out _ vb HVB.out HRD.out).mono ?_; rintro r w6 ⟨rfl, ht, hb⟩; obtain ⟨sv, ht⟩ := ht; have HT := Aside0.mk ht; have HL := Aside0.mk HB.out.size; replace HB := Aside0.mk (below_step HB.out hb); generalize w5.heap.size = T at HT HL ⊢; clear hb ht)
    | (go_at_call 40; refine (C3.out _).mono ?_; rintro r w7 ⟨rfl, hb⟩; replace HT := Aside0.mk (tb_below HT.out hb); replace HB := Aside0.mk (below_step HB.out hb); clear hb)
    | (go_at_call 20; refine (HF.out T _ 0 sv w7 HT.out (by decide)).mono ?_; rintro r w8 ⟨m, rfl, hm, htk⟩; replace HB := Aside0.mk (ticks_new HB.out htk HL.out (Nat.le_refl _)); clear hm htk)
    | ((with_reducible refine gate_dst (N := 2) rfl ?_); refine box_event ?hg (N := 2) ?hd (cs := eE noE) (t := 42) ?hr ?_; (case hd => rfl); (case hg => rfl); (case hr => first | (go_simp; done) | (go_simp; rfl)); intro g2 hg w9 hbox hb; have HX := Aside0.mk hbox; have HG2 := Aside0.mk (show w.heap.size ≤ g2 by rw [hg]; exact HB.out.size); replace HB := Aside0.mk (below_step HB.out hb); clear hb hg hbox)
    | ((with_reducible refine gate_store (t := 42) (p := 2) rfl ?_); refine wpList_store_row rfl 42 (.tmp 2) (.tmp 18) rfl g2 (eE fe) rfl rfl 42 (eE noE) HX.out (infoEE HOF.out) ((eE_size ok_noE).trans (eE_size HOF.out).symm) (eE_one _) ?_; replace HX := Aside0.mk (row_new (cells := eE fe) HX.out); replace HB := Aside0.mk (below_row HB.out HG2.out (eE fe)); generalize w9.setRow g2 (eE fe) = w10 at HX HB ⊢; have hcv : w10.cell? ⟨g2, 18, none⟩ = some (.int .i64 2) := (by have := part_v HOF.out (range_row (xs := lE fe) HX.out); rw [Nat.zero_add, HV1.out] at this; exact this)))
  go_ret
  exact ⟨rfl, HB.out⟩
end Go.Proofs.Ythjhbhgfckaklaa.P
