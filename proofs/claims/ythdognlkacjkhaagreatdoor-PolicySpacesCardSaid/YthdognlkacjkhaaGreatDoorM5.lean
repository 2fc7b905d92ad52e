/-
  Texts of the proof, put together.
-/
import Derived.DeepKeys
import Derived.Test.YthdognlkacjkhaaGreatDoorArrL
section
namespace Go.Proofs.YthdognlkacjkhaaGreatDoor.P
open Go.RowKit Go.Proofs.YthdognlkacjkhaaGreatDoorW.PrintWords Go.Proofs.YthdognlkacjkhaaGreatDoorW.PrintLast Go.Proofs.YthdognlkacjkhaaGreatDoorW.PrintMore
set_option linter.unusedVariables false
set_option linter.unusedSimpArgs false
/-! ### structs held against one another -/
instance decAd : DecidableEq Ad := fun a b =>
  if h : a.fam = b.fam ∧ a.bs = b.bs then .isTrue (by cases a; cases b; obtain ⟨h1, h2⟩ := h; cases h1; cases h2; rfl) else .isFalse (fun e => h (by subst e; exact ⟨rfl, rfl⟩))
instance decPf : DecidableEq Pf := fun a b =>
  if h : a.a = b.a ∧ a.n = b.n then .isTrue (by cases a; cases b; obtain ⟨h1, h2⟩ := h; cases h1; cases h2; rfl) else .isFalse (fun e => h (by subst e; exact ⟨rfl, rfl⟩))
theorem dec_ad (a b : Ad) : ((a.fam == b.fam) && decide (a.bs = b.bs)) = decide (a = b) := by
  rw [Bool.eq_iff_iff]
  simp only [Bool.and_eq_true, beq_iff_eq, decide_eq_true_eq]
  constructor
  · rintro ⟨h1, h2⟩
    cases a; cases b; cases h1; cases h2; rfl
  · rintro rfl
    exact ⟨rfl, rfl⟩
theorem dec_pf (a b : Pf) : (decide (a.a = b.a) && (a.n == b.n)) = decide (a = b) := by
  rw [Bool.eq_iff_iff]
  simp only [Bool.and_eq_true, beq_iff_eq, decide_eq_true_eq]
  constructor
  · rintro ⟨h1, h2⟩
    cases a; cases b; cases h1; cases h2; rfl
  · rintro rfl
    exact ⟨rfl, rfl⟩
theorem plain_u8 : Tryz.prog.plainKey 5 = true := by kernel_rfl
theorem plain_int : Tryz.prog.plainKey 3 = true := by kernel_rfl
theorem cells_u8 : Tryz.prog.cellsOf 5 = 1 := by kernel_rfl
theorem at_map (x : List Int) (i : Nat) (h : i < x.length) : (x.map (Value.int .u8)).toArray[i]? = some (.int .u8 (byt x i)) := by
  unfold byt
  rw [List.getElem?_toArray, List.getElem?_map, List.getElem?_eq_getElem h, List.getD_eq_getElem?_getD, List.getElem?_eq_getElem h]
  rfl
theorem eq_items (d : Nat) (x y : List Int) (w : World) : ∀ is : List Nat, (∀ i ∈ is, i < x.length ∧ i < y.length) → (Op.eqItems (d + 1) 5 1 (x.map (Value.int .u8)).toArray (y.map (Value.int .u8)).toArray is).run Tryz.prog w = .ok (is.all fun i => byt x i == byt y i) w
  | [], _ => by simp [Op.eqItems]
  | i :: is, h => by
    have ih := eq_items d x y w is (fun j hj => h j (List.mem_cons_of_mem _ hj))
    obtain ⟨h1, h2⟩ := h i List.mem_cons_self
    have p1 := run_part_plain (P := Tryz.prog) w plain_u8 (at_map x i h1)
    have p2 := run_part_plain (P := Tryz.prog) w plain_u8 (at_map y i h2)
    have p3 := run_equalIn_int (P := Tryz.prog) w d 5 .u8 .u8 (byt x i) (byt y i) Tryz.underlying5
    simp only [Op.eqItems, Nat.mul_one, Sem.run_bind, p1, p2, p3, Result.andThen_ok, List.all_cons]
    cases hb : (byt x i == byt y i)
    · simp
    · simpa using ih
theorem all_byt (x y : List Int) (n : Nat) (hx : x.length = n) (hy : y.length = n) : ((List.range n).all fun i => byt x i == byt y i) = decide (x = y) := by
  rw [Bool.eq_iff_iff]
  simp only [List.all_eq_true, List.mem_range, beq_iff_eq, decide_eq_true_eq]
  constructor
  · intro h
    refine List.ext_getElem (hx.trans hy.symm) (fun i h1 h2 => ?_)
    have := h i (by omega)
    unfold byt at this
    rw [List.getD_eq_getElem?_getD, List.getD_eq_getElem?_getD, List.getElem?_eq_getElem h1, List.getElem?_eq_getElem h2] at this
    exact this
  · rintro rfl i _
    rfl
theorem eq_bytes (d : Nat) (x y : List Int) (hx : x.length = 16) (hy : y.length = 16) (w : World) : (Op.equalIn (d + 2) 28 (.agg (x.map (Value.int .u8)).toArray) (.agg (y.map (Value.int .u8)).toArray)).run Tryz.prog w = .ok (decide (x = y)) w := by
  obtain ⟨i, hi⟩ := info_of_underlying (P := Tryz.prog) Tryz.underlying5
  rw [run_equalIn_array (P := Tryz.prog) w (d + 1) _ _ Tryz.underlying28 hi, cells_u8, eq_items d x y w (List.range 16) (fun j hj => by have := List.mem_range.1 hj; omega), all_byt x y 16 hx hy]
theorem part_fam (l : List Value) (f : Int) (w : World) : (part 3 (Value.int .i64 f :: l).toArray 0).run Tryz.prog w = .ok (.int .i64 f) w := run_part_plain (P := Tryz.prog) w plain_int rfl
set_option maxRecDepth 100000 in
theorem part_cut {t : TypeId} {n : Nat} {dsc : TypeDesc} (l m r : List Value) (w : World) (hu : Tryz.prog.underlying t = some dsc) (hd : dsc.isRow = true) (hi : (Tryz.prog.info? t).map (·.size) = some m.length) (hl : l.length = n) : (part t (l ++ m ++ r).toArray n).run Tryz.prog w = .ok (.agg m.toArray) w := by
  have hagg : (isAgg t).run Tryz.prog w = .ok true w := by
    unfold isAgg
    rw [Sem.run_bind, run_underlying hu w]
    cases dsc <;> simp_all
  cases hq : Tryz.prog.info? t with
  | none => simp [hq] at hi
  | some i =>
    have hs : i.size = m.length := by simpa [hq] using hi
    have hdt : List.take m.length (List.drop n (l ++ (m ++ r))) = m := by rw [← hl, List.drop_left, List.take_left]
    simp [part, hagg, sizeOf, typeInfo, hq, hs, hdt]
theorem eq_addr (d : Nat) (a b : Ad) (ha : a.ok) (hb : b.ok) (w : World) : (Op.equalIn (d + 3) 30 (.agg (eA a)) (.agg (eA b))).run Tryz.prog w = .ok (decide (a = b)) w := by
  have hi : (Tryz.prog.info? 28).map (·.size) = some 16 := by kernel_rfl
  have p1 := part_cut (t := 28) (n := 1) [.int .i64 a.fam] (a.bs.map (Value.int .u8)) [] w Tryz.underlying28 rfl (by rw [hi, List.length_map, ha.1]) rfl
  have p2 := part_cut (t := 28) (n := 1) [.int .i64 b.fam] (b.bs.map (Value.int .u8)) [] w Tryz.underlying28 rfl (by rw [hi, List.length_map, hb.1]) rfl
  rw [List.append_nil] at p1 p2
  rw [← dec_ad]
  refine eqA_of (P := Tryz.prog) Tryz.underlying30 (by kernel_rfl) ?_
  refine eqf_cons (by kernel_rfl) (part_fam _ _ w) (part_fam _ _ w) (run_equalIn_int (P := Tryz.prog) w (d + 1) 3 .i64 .i64 a.fam b.fam Tryz.underlying3) ?_
  exact eqf_last (by kernel_rfl) p1 p2 (eq_bytes d a.bs b.bs ha.1 hb.1 w)
theorem eq_pf (d : Nat) (p q : Pf) (hp : p.a.ok) (hq : q.a.ok) (w : World) : (Op.equalIn (d + 4) 42 (.agg (eP p)) (.agg (eP q))).run Tryz.prog w = .ok (decide (p = q)) w := by
  have p1 := part_cut (t := 30) (n := 0) [] (lA p.a) [.int .i64 p.n] w Tryz.underlying30 rfl (by rw [lA_len hp]; exact infoA) rfl
  have p2 := part_cut (t := 30) (n := 0) [] (lA q.a) [.int .i64 q.n] w Tryz.underlying30 rfl (by rw [lA_len hq]; exact infoA) rfl
  rw [List.nil_append] at p1 p2
  rw [← dec_pf]
  refine eqA_of (P := Tryz.prog) Tryz.underlying42 (by kernel_rfl) ?_
  refine eqf_cons (by kernel_rfl) p1 p2 (eq_addr d p.a q.a hp hq w) ?_
  exact eqf_last (by kernel_rfl) (run_part_plain (P := Tryz.prog) w plain_int (eP_n hp)) (run_part_plain (P := Tryz.prog) w plain_int (eP_n hq)) (run_equalIn_int (P := Tryz.prog) w (d + 2) 3 .i64 .i64 p.n q.n Tryz.underlying3)
section
variable {P : Program}
/-- '==' of two structs, where it is known what they are held to be. -/
theorem run_eql_op {op : Oper} {a : Act} {w : World} {t t' : TypeId} {x y : Operand} {xs ys : Array Value} {r : Bool} (ho : op.op = .binOp .eql t x y t') (hx : a.eval x = .agg xs) (hy : a.eval y = .agg ys) (hm : P.eqGuardType P.depth t = false) (he : (Op.equalIn 10000 t (.agg xs) (.agg ys)).run P w = .ok r w) : (execOp a.eval op).run P w = .ok (.value (.bool r)) w := by
  unfold execOp
  simp only [ho, hx, hy, Sem.run_bind, run_eqGuard_agg w .eql t x y xs ys hm, run_eql_struct, he, Result.andThen_ok]
  simp
/-- An operation whose run is known by an equation. -/
theorem wp_value_run {o : Oper} {a : Act} {w w1 : World} {K : Act → World → Prop} {Q : Exit → Act → World → Prop} {v : Value} (hrun : (execOp a.eval o).run P w = .ok (.value v) w1) (h : K (a.put o.dst v) w1) : Oper.wp P o a w K Q := by
  unfold Oper.wp
  rw [hrun]
  exact h
theorem run_neq_op {op : Oper} {a : Act} {w : World} {t t' : TypeId} {x y : Operand} {xs ys : Array Value} {r : Bool} (ho : op.op = .binOp .neq t x y t') (hx : a.eval x = .agg xs) (hy : a.eval y = .agg ys) (hm : P.eqGuardType P.depth t = false) (he : (Op.equalIn 10000 t (.agg xs) (.agg ys)).run P w = .ok r w) : (execOp a.eval op).run P w = .ok (.value (.bool (!r))) w := by
  unfold execOp
  simp only [ho, hx, hy, Sem.run_bind, run_eqGuard_agg w .neq t x y xs ys hm, run_neq_struct, he, Result.andThen_ok]
  simp
end
/-! ### addr.May -/
theorem zerB_iff (l : List Int) : ∀ (d i : Nat), zerB l d i = true ↔ ∀ j, i ≤ j → j < i + d → byt l j = 0
  | 0, i => ⟨fun _ j h1 h2 => by omega, fun _ => rfl⟩
  | d + 1, i => by
    have ih := zerB_iff l d (i + 1)
    unfold zerB
    rw [Bool.and_eq_true, ih, beq_iff_eq]
    constructor
    · rintro ⟨h1, h2⟩ j h3 h4
      by_cases h : j = i
      · rw [h]; exact h1
      · exact h2 j (by omega) (by omega)
    · intro h
      exact ⟨h i (by omega) (by omega), fun j h1 h2 => h j (by omega) (by omega)⟩
theorem bytes_ext {x y : List Int} {n : Nat} (hx : x.length = n) (hy : y.length = n) (h : ∀ j, j < n → byt x j = byt y j) : x = y := by
  have := all_byt x y n hx hy
  rw [List.all_eq_true.2 (fun i hi => by have := h i (List.mem_range.1 hi); simpa using this)] at this
  exact of_decide_eq_true this.symm
theorem byt_zeros (j : Nat) : byt zeros16 j = 0 := by
  by_cases h : j < 16
  · rcases (show j = 0 ∨ j = 1 ∨ j = 2 ∨ j = 3 ∨ j = 4 ∨ j = 5 ∨ j = 6 ∨ j = 7 ∨ j = 8 ∨ j = 9 ∨ j = 10 ∨ j = 11 ∨ j = 12 ∨ j = 13 ∨ j = 14 ∨ j = 15 by omega) with rfl | rfl | rfl | rfl | rfl | rfl | rfl | rfl | rfl | rfl | rfl | rfl | rfl | rfl | rfl | rfl <;> rfl
  · unfold byt
    rw [List.getD_eq_getElem?_getD, List.getElem?_eq_none (by show 16 ≤ j; omega)]
    rfl
theorem mayA_none (a : Ad) (ha : a.ok) (hz : a.fam = 0) : mayA a = decide (a = noA) := by
  unfold mayA famB fromA
  rw [Bool.eq_iff_iff, if_pos hz, hz, Bool.and_eq_true, zerB_iff, decide_eq_true_eq]
  constructor
  · rintro ⟨h, _⟩
    have e := bytes_ext ha.1 (show zeros16.length = 16 from rfl) (fun j hj => (h j (by omega) (by omega)).trans (byt_zeros j).symm)
    cases a
    cases hz
    cases e
    rfl
  · rintro rfl
    exact ⟨fun j _ _ => byt_zeros j, rfl⟩
theorem four_bytes (l : List Int) (h : ∀ i, 0 ≤ byt l i ∧ byt l i ≤ 255) : 0 ≤ fourN l 4 ∧ fourN l 4 < 4294967296 ∧ by4 (fourN l 4) 4 = [byt l 0, byt l 1, byt l 2, byt l 3] := by
  have h0 := h 0
  have h1 := h 1
  have h2 := h 2
  have h3 := h 3
  have e : fourN l 4 = ((byt l 0 * 256 + byt l 1) * 256 + byt l 2) * 256 + byt l 3 := by
    have f1 : fourN l 1 = byt l 0 := by show (0 * 256 % 4294967296 + byt l 0 % 4294967296) % 4294967296 = byt l 0; omega
    have f2 : fourN l 2 = byt l 0 * 256 + byt l 1 := by show (fourN l 1 * 256 % 4294967296 + byt l 1 % 4294967296) % 4294967296 = _; rw [f1]; omega
    have f3 : fourN l 3 = (byt l 0 * 256 + byt l 1) * 256 + byt l 2 := by show (fourN l 2 * 256 % 4294967296 + byt l 2 % 4294967296) % 4294967296 = _; rw [f2]; omega
    show (fourN l 3 * 256 % 4294967296 + byt l 3 % 4294967296) % 4294967296 = _
    rw [f3]
    omega
  have g0 : fourN l 4 / 16777216 % 256 = byt l 0 := by omega
  have g1 : fourN l 4 / 65536 % 256 = byt l 1 := by omega
  have g2 : fourN l 4 / 256 % 256 = byt l 2 := by omega
  have g3 : fourN l 4 % 256 = byt l 3 := by omega
  refine ⟨by omega, by omega, ?_⟩
  show [fourN l 4 / 16777216 % 256, fourN l 4 / 65536 % 256, fourN l 4 / 256 % 256, fourN l 4 % 256] = _
  rw [g0, g1, g2, g3]
theorem byt_of4N (n : Int) (j : Nat) : byt (of4N n).bs j = if j < 4 then byt (by4 n 4) j else 0 := by
  by_cases h : j < 16
  · rcases (show j = 0 ∨ j = 1 ∨ j = 2 ∨ j = 3 ∨ j = 4 ∨ j = 5 ∨ j = 6 ∨ j = 7 ∨ j = 8 ∨ j = 9 ∨ j = 10 ∨ j = 11 ∨ j = 12 ∨ j = 13 ∨ j = 14 ∨ j = 15 by omega) with rfl | rfl | rfl | rfl | rfl | rfl | rfl | rfl | rfl | rfl | rfl | rfl | rfl | rfl | rfl | rfl <;> rfl
  · rw [if_neg (by omega)]
    unfold byt
    rw [List.getD_eq_getElem?_getD, List.getElem?_eq_none (by show 16 ≤ j; omega)]
    rfl
theorem mayA_four (a : Ad) (ha : a.ok) (h4 : a.fam = 4) : mayA a = decide (a = of4 (fourN a.bs 4)) := by
  obtain ⟨f0, f1, f2⟩ := four_bytes a.bs (byt_range ha)
  rw [of4_eq _ f0 f1]
  unfold mayA famB fromA
  rw [Bool.eq_iff_iff, h4, if_neg (by decide), if_pos rfl, Bool.and_eq_true, zerB_iff, decide_eq_true_eq]
  have hb : ∀ j, byt (of4N (fourN a.bs 4)).bs j = if j < 4 then byt a.bs j else 0 := fun j => by
    rw [byt_of4N, f2]
    by_cases hj : j < 4
    · rw [if_pos hj, if_pos hj]
      rcases (show j = 0 ∨ j = 1 ∨ j = 2 ∨ j = 3 by omega) with rfl | rfl | rfl | rfl <;> rfl
    · rw [if_neg hj, if_neg hj]
  constructor
  · rintro ⟨h, _⟩
    have e := bytes_ext (y := (of4N (fourN a.bs 4)).bs) ha.1 rfl (fun j hj => by
      rw [hb]
      by_cases hj4 : j < 4
      · rw [if_pos hj4]
      · rw [if_neg hj4]; exact h j (by omega) (by omega))
    exact (show a = ⟨4, (of4N (fourN a.bs 4)).bs⟩ by rw [← e, ← h4])
  · intro h
    refine ⟨fun j h1 h2 => ?_, rfl⟩
    have := hb j
    rw [← h, if_neg (by omega)] at this
    exact this
theorem mayA_other (a : Ad) (hz : a.fam ≠ 0) (h4 : a.fam ≠ 4) : mayA a = (a.fam == 6) := by
  unfold mayA famB fromA
  rw [if_neg hz, if_neg h4, show (a.fam == 0) = false by simpa using hz, show (a.fam == 4) = false by simpa using h4]
  rfl
set_option maxHeartbeats 4000000 in
set_option maxRecDepth 100000 in
theorem addr_May (a : Ad) (ha : a.ok) (w : World) : Calls Tryz.prog 69 #[.agg (eA a)] w fun e w' => e = .returned (.bool (mayA a)) ∧ Below w.heap.size w w' := by
  have HB := Aside0.mk (Below.refl w.heap.size w)
  have HA := Aside0.mk ha
  have HS := Aside0.mk (four_bytes a.bs (byt_range ha))
  clear ha
  cases hz : (a.fam == 0)
  · cases h4 : (a.fam == 4)
    · have HR := Aside0.mk (mayA_other a (by simpa using hz) (by simpa using h4))
      go_enter Tryz.func69, Tryz.ntmps69
      go_wp2_with (first
        | ((with_reducible refine gate_dst (N := 1) rfl ?_); refine box_event ?hg (N := 1) ?hd (cs := eA a) (t := 30) ?hr ?_; (case hd => rfl); (case hg => rfl); (case hr => first | (go_simp; done) | (go_simp; rfl)); intro g1 hg w1 hbox hb; have HX := Aside0.mk hbox; have h0 := (blk_cell hbox 0).trans (eA_fam a); replace HB := Aside0.mk (below_step (bel_later HB.out) hb); clear hb hg hbox))
      go_ret
      exact ⟨by rw [HR.out]; first | done | rfl, HB.out⟩
    · have HR := Aside0.mk (mayA_four a HA.out (by simpa using h4))
      go_enter Tryz.func69, Tryz.ntmps69
      go_wp2_with (first
        | ((with_reducible refine gate_dst (N := 1) rfl ?_); refine box_event ?hg (N := 1) ?hd (cs := eA a) (t := 30) ?hr ?_; (case hd => rfl); (case hg => rfl); (case hr => first | (go_simp; done) | (go_simp; rfl)); intro g1 hg w1 hbox hb; have HX := Aside0.mk hbox; have h0 := (blk_cell hbox 0).trans (eA_fam a); replace HB := Aside0.mk (below_step (bel_later HB.out) hb); clear hb hg hbox))
      obtain ⟨S, hS⟩ : ∃ S : World → Prop, S = fun w' => w'.heap[g1]? = some (.cells (eA a) 30 (0, 0)) ∧ Below w.heap.size w w' := ⟨_, rfl⟩
      have HSt := Aside0.mk (show ∀ a b : World, S a → Below a.heap.size a b → S b by
        intro a b h hb
        rw [hS] at h ⊢
        exact ⟨blk_below h.1 hb, below_step h.2 hb⟩)
      have HSx := Aside0.mk (show ∀ b : World, S b → b.heap[g1]? = some (.cells (eA a) 30 (0, 0)) ∧ Below w.heap.size w b by
        intro b h
        rw [hS] at h
        exact h)
      have s0 : S w1.drew := by rw [hS]; exact ⟨blk_later HX.out, bel_later HB.out⟩
      clear hS h0
      refine wp_region_held_drew (S := S) (by kernel_rfl) s0 (fun _ => ?_)
      refine anyH_world s0 (fun w5 s5 => ?_)
      clear s0
      have s0 := s5
      clear s5
      refine wpAnyH_take (i := 0) (v := .agg (eA a)) rfl ?z0b ?z0c ?z0d (fun _ _ _ h => h) ?z0e s0 ?z0f
      case z0b => kernel_rfl
      case z0c => kernel_rfl
      case z0d => kernel_rfl
      case z0e => exact yields_row (by kernel_rfl) 30 (.tmp 1) rfl g1 rfl 30 (eA a) (0, 0) _ (fun w' h => (HSx.out w' h).1) Tryz.underlying30 rfl (infoE HA.out)
      (try simp only [Act.put, List.getElem_toArray, List.getElem_cons_succ, List.getElem_cons_zero, List.setIfInBounds_toArray, List.set_cons_zero, List.set_cons_succ])
      refine wpAnyH_take (i := 1) (v := .agg (eA a)) rfl ?z1b ?z1c ?z1d (fun _ _ _ h => h) ?z1e s0 ?z1f
      case z1b => kernel_rfl
      case z1c => kernel_rfl
      case z1d => kernel_rfl
      case z1e => exact yields_row (by kernel_rfl) 30 (.tmp 1) rfl g1 rfl 30 (eA a) (0, 0) _ (fun w' h => (HSx.out w' h).1) Tryz.underlying30 rfl (infoE HA.out)
      (try simp only [Act.put, List.getElem_toArray, List.getElem_cons_succ, List.getElem_cons_zero, List.setIfInBounds_toArray, List.set_cons_zero, List.set_cons_succ])
      refine held_step (i := 2) (by kernel_rfl) rfl (by kernel_rfl) (fun K hK => ?_)
      go_wp2_with (go_at_call 102; refine (addr_Four a HA.out w5).mono ?_; rintro e w6 ⟨rfl, hb⟩; have s1 := HSt.out _ _ s0 hb; clear hb)
      refine hK.out _ _ s1 ?_
      clear hK K
      (try simp only [Act.put, List.getElem_toArray, List.getElem_cons_succ, List.getElem_cons_zero, List.setIfInBounds_toArray, List.set_cons_zero, List.set_cons_succ])
      refine held_step (i := 3) (by kernel_rfl) rfl (by kernel_rfl) (fun K hK => ?_)
      go_wp2_with (go_at_call 64; refine (addr_Of4 (fourN a.bs 4) HS.out.1 HS.out.2.1 w6).mono ?_; rintro e w7 ⟨rfl, hb⟩; have s2 := HSt.out _ _ s1 hb; clear hb)
      refine hK.out _ _ s2 ?_
      clear hK K
      (try simp only [Act.put, List.getElem_toArray, List.getElem_cons_succ, List.getElem_cons_zero, List.setIfInBounds_toArray, List.set_cons_zero, List.set_cons_succ])
      refine held_step (i := 4) (by kernel_rfl) rfl (by kernel_rfl) (fun K hK => ?_)
      refine wp_value_run (run_eql_op (r := decide (a = of4 (fourN a.bs 4))) rfl rfl rfl (by kernel_rfl) (eq_addr 9997 a (of4 (fourN a.bs 4)) HA.out (ok_of4 _) _)) ?_
      refine hK.out _ _ s2 ?_
      clear hK K
      (try simp only [Act.put, List.getElem_toArray, List.getElem_cons_succ, List.getElem_cons_zero, List.setIfInBounds_toArray, List.set_cons_zero, List.set_cons_succ])
      refine held_step (i := 5) (by kernel_rfl) rfl (by kernel_rfl) (fun K hK => ?_)
      go_wp2
      refine hK.out _ _ s2 ?_
      clear hK K
      (try simp only [Act.put, List.getElem_toArray, List.getElem_cons_succ, List.getElem_cons_zero, List.setIfInBounds_toArray, List.set_cons_zero, List.set_cons_succ])
      refine wpAnyH_done (by kernel_rfl) ?_ _
      have HF := Aside0.mk (HSx.out _ s2).2
      clear s0 s1 s2
      go_wp2
      go_ret
      exact ⟨by rw [HR.out]; first | done | rfl, HF.out⟩
  · have HR := Aside0.mk (mayA_none a HA.out (by simpa using hz))
    go_enter Tryz.func69, Tryz.ntmps69
    go_wp2_with (first
      | ((with_reducible refine gate_dst (N := 1) rfl ?_); refine box_event ?hg (N := 1) ?hd (cs := eA a) (t := 30) ?hr ?_; (case hd => rfl); (case hg => rfl); (case hr => first | (go_simp; done) | (go_simp; rfl)); intro g1 hg w1 hbox hb; have HX := Aside0.mk hbox; have h0 := (blk_cell hbox 0).trans (eA_fam a); replace HB := Aside0.mk (below_step (bel_later HB.out) hb); clear hb hg hbox)
      | ((with_reducible refine gate_dst (N := 7) rfl ?_); refine wpList_load_row rfl 30 (.tmp 1) rfl g1 rfl 30 (eA a) (0, 0) _ HX.out Tryz.underlying30 rfl (infoE HA.out) ?_)
      | ((with_reducible refine gate_dst (N := 9) rfl ?_); refine Kd.event_run (v := .bool (decide (a = noA))) rfl (run_eql_op rfl rfl rfl (by kernel_rfl) (eq_addr 9997 a noA HA.out ok_noA _)) ?_))
    go_ret
    exact ⟨by rw [HR.out]; first | done | rfl, HB.out⟩
/-- A byte with one bit, the highest one first, put to 0. -/
def clrB (b : Int) (k : Nat) : Int := bits .andNot .u8 b (2 ^ (7 - k) % 256)
theorem clrB_range (b : Int) (k : Nat) : 0 ≤ clrB b k ∧ clrB b k ≤ 255 := bits_within .andNot .u8 b _
theorem wrap_7 (k : Nat) (h : k < 8) : wrap64 (7 - (k : Int)) = ((7 - k : Nat) : Int) := by unfold wrap64; omega
theorem or_none (x : Int) (h : 0 ≤ x ∧ x ≤ 255) : bits .or .u8 x 0 = x := by
  have := bits_join .u8 8 (by decide) wraps_u8 0 x 0 h.1 (by simp) (by omega) (by decide) (by decide) (by decide)
  rw [this]
  omega
def fillL (a : Ad) (n : Int) : Nat → List Int
  | 0 => a.bs
  | i + 1 => if n ≤ (i : Int) then (fillL a n i).set (i / 8) (clrB (byt (fillL a n i) (i / 8)) (i % 8)) else fillL a n i
def fillA (a : Ad) (n : Int) : Ad := ⟨a.fam, fillL a n (bitsOf a.fam).toNat⟩
theorem ok_fillL (a : Ad) (ha : a.ok) (n : Int) : ∀ k, Ad.ok ⟨a.fam, fillL a n k⟩
  | 0 => ha
  | k + 1 => by
    rw [fillL]
    split
    · exact ok_set (ok_fillL a ha n k) (k / 8) _ (clrB_range _ _).1 (clrB_range _ _).2
    · exact ok_fillL a ha n k
theorem ok_fillA (a : Ad) (ha : a.ok) (n : Int) : (fillA a n).ok := ok_fillL a ha n _
theorem fill_step1 (a : Ad) (n : Int) (i : Nat) (h : n ≤ (i : Int)) : fillL a n (i + 1) = (fillL a n i).set (i / 8) (clrB (byt (fillL a n i) (i / 8)) (i % 8)) := by rw [fillL, if_pos h]
theorem fill_step2 (a : Ad) (n : Int) (i : Nat) (h : ¬ n ≤ (i : Int)) : fillL a n (i + 1) = fillL a n i := by rw [fillL, if_neg h]
set_option maxHeartbeats 4000000 in
set_option maxRecDepth 100000 in
theorem cidr_fill (a : Ad) (ha : a.ok) (n : Int) (w : World) : Calls Tryz.prog 82 #[.agg (eA a), .int .i64 n, .int .i64 0] w fun e w' => e = .returned (.agg (eA (fillA a n))) ∧ Below w.heap.size w w' := by
  have HB := Aside0.mk (Below.refl w.heap.size w)
  have HA := Aside0.mk ha
  have HW := Aside0.mk (show fillA a n = ⟨a.fam, fillL a n (bitsOf a.fam).toNat⟩ from rfl)
  clear ha
  go_enter Tryz.func82, Tryz.ntmps82
  go_wp2_with (first
    | ((with_reducible refine gate_dst (N := 3) rfl ?_); refine box_event ?hg (N := 3) ?hd (cs := eA a) (t := 30) ?hr ?_; (case hd => rfl); (case hg => rfl); (case hr => first | (go_simp; done) | (go_simp; rfl)); intro g3 hg w1 hbox hb; have HX := Aside0.mk hbox; have HG3 := Aside0.mk (show w.heap.size ≤ g3 by rw [hg]; exact below_size (bel_later HB.out)); replace HB := Aside0.mk (below_step (bel_later HB.out) hb); clear hb hg hbox)
    | ((with_reducible refine gate_dst (N := 6) rfl ?_); refine box_event ?hg (N := 6) ?hd (cs := eA noA) (t := 30) ?hr ?_; (case hd => rfl); (case hg => rfl); (case hr => first | (go_simp; done) | (go_simp; rfl)); intro g6 hg w2 hbox hb; have HY := Aside0.mk hbox; have HN := Aside0.mk (show g3 ≠ g6 by rw [hg]; exact Nat.ne_of_lt (blk_lt (blk_later HX.out))); have HG6 := Aside0.mk (show w.heap.size ≤ g6 by rw [hg]; exact below_size (bel_later HB.out)); replace HX := Aside0.mk (blk_below (blk_later HX.out) hb); replace HB := Aside0.mk (below_step (bel_later HB.out) hb); clear hb hg hbox)
    | ((with_reducible refine gate_dst (N := 9) rfl ?_); refine wpList_load_row rfl 30 (.tmp 3) rfl g3 rfl 30 (eA a) (0, 0) _ HX.out Tryz.underlying30 rfl (infoE HA.out) ?_)
    | (go_at_call 48; refine (addr_Bits a w2).mono ?_; rintro e w3 ⟨rfl, hb⟩; replace HX := Aside0.mk (blk_below HX.out hb); replace HY := Aside0.mk (blk_below HY.out hb); replace HB := Aside0.mk (below_step HB.out hb); clear hb))
  go_loopw [11] (fun v11 wr => ∃ i : Nat, v11 = .int .i64 (i : Int) ∧ Aside0 (i ≤ (bitsOf a.fam).toNat) ∧ Aside0 (wr.heap[g3]? = some (.cells (eA ⟨a.fam, fillL a n i⟩) 30 (0, 0)) ∧ wr.heap[g6]? = some (.cells (eA noA) 30 (0, 0)) ∧ Below w.heap.size w wr)) (fun v11 _ => (bitsOf a.fam).toNat - (intOf v11).toNat)
  case atStart => exact ⟨0, rfl, ⟨Nat.zero_le _⟩, ⟨HX.out, HY.out, HB.out⟩⟩
  case round =>
    obtain ⟨i, rfl, HI, HE⟩ := hrel
    clear HX HY HB
    have HX := Aside0.mk HE.out.1
    have HY := Aside0.mk HE.out.2.1
    have HB := Aside0.mk HE.out.2.2
    clear HE
    by_cases hlt : i < (bitsOf a.fam).toNat
    · have hi : i < 128 := by have := bitsOf_le a.fam; omega
      have c3b0 : decide ((i : Int) < bitsOf a.fam) = true := decide_eq_true (by omega)
      have c3b2 : (0 : Int) ≤ ((i / 8 : Nat) : Int) := Int.natCast_nonneg _
      have c3b3 : ((i / 8 : Nat) : Int) < 16 := by omega
      have HQ := Aside0.mk (show i / 8 < 16 ∧ i % 8 < 8 by omega)
      have e8 : (i : Int).tdiv 8 = ((i / 8 : Nat) : Int) := by rw [Int.tdiv_eq_ediv_of_nonneg (Int.natCast_nonneg _)]; rfl
      have r8 : (i : Int).tmod 8 = ((i % 8 : Nat) : Int) := by rw [Int.tmod_eq_emod_of_nonneg (Int.natCast_nonneg _)]; rfl
      have e4 : wrap64 ((i : Int) + 1) = ((i + 1 : Nat) : Int) := wrap_sm1 i (by omega)
      have HE4 := Aside0.mk e4
      have HLT := Aside0.mk hlt
      clear hlt hi
      by_cases hf : n ≤ (i : Int)
      · have c4b0 : decide (n ≤ (i : Int)) = true := decide_eq_true hf
        have HS := Aside0.mk (fill_step1 a n i hf)
        clear hf
        generalize i / 8 = q at e8 c3b2 c3b3 HQ HS
        generalize i % 8 = k0 at r8 HQ HS
        have hx := (blk_cell HX.out (1 + q)).trans (eA_byte (ok_fillL a HA.out n i) q HQ.out.1)
        have hfz := blk_frozen HX.out (1 + q)
        have hsh0 : ∀ w : World, (Op.shift .shl .u8 1 .i64 ((7 - k0 : Nat) : Int)).run Tryz.prog w = .ok (.int .u8 (2 ^ (7 - k0) % 256)) w := fun w => by
          rw [shift_shl_any .u8 .i64 1 _ (Int.natCast_nonneg _), Int.toNat_natCast, IntKind.wrap_u8, Int.one_mul, Nat.min_eq_left (show 7 - k0 ≤ IntKind.u8.bits by show 7 - k0 ≤ 8; omega)]
          rfl
        have e7 : wrap64 (7 - (k0 : Int)) = ((7 - k0 : Nat) : Int) := wrap_7 k0 HQ.out.2
        have HC := Aside0.mk (show clrB (byt (fillL a n i) q) k0 = bits .andNot .u8 (byt (fillL a n i) q) (2 ^ (7 - k0) % 256) from rfl)
        have HCR := Aside0.mk (clrB_range (byt (fillL a n i) q) k0)
        generalize ((7 - k0 : Nat) : Int) = z at hsh0 e7
        generalize ((2 : Int) ^ (7 - k0) % 256) = m at hsh0 HC
        have hor := or_none _ HCR.out
        rw [HC.out] at hor
        generalize byt (fillL a n i) q = b at hx hor HC HS HCR
        go_wp2
        go_roundw
        case rel => exact ⟨i + 1, (by first | rfl | exact congrArg (Value.int .i64) HE4.out), ⟨HLT.out⟩, ⟨by
            have h1 := blk_put HX.out (1 + q) (.int .u8 (bits .andNot .u8 b m)) (eA_set ⟨a.fam, fillL a n i⟩ q _)
            have h2 := blk_put h1 (1 + q) (.int .u8 (bits .andNot .u8 b m)) (eA_set ⟨a.fam, (fillL a n i).set q (bits .andNot .u8 b m)⟩ q _)
            rw [List.set_set] at h2
            rw [HS.out, HC.out]
            exact h2, (Below.heap_setCell _ _ _ _ (Ne.symm HN.out)).trans ((Below.heap_setCell wr _ _ _ (Ne.symm HN.out)).trans HY.out), (HB.out.setCell HG3.out _).setCell HG3.out _⟩⟩
        case measure => exact measureA _ i _ (by first | rfl | exact HE4.out) HLT.out
      · have c4b0 : decide (n ≤ (i : Int)) = false := decide_eq_false hf
        have HS := Aside0.mk (fill_step2 a n i hf)
        clear hf
        go_wp2
        go_roundw
        case rel => exact ⟨i + 1, (by first | rfl | exact congrArg (Value.int .i64) HE4.out), ⟨HLT.out⟩, ⟨by rw [HS.out]; exact HX.out, HY.out, HB.out⟩⟩
        case measure => exact measureA _ i _ (by first | rfl | exact HE4.out) HLT.out
    · have hk : i = (bitsOf a.fam).toNat := by have := HI.out; omega
      have c3b0 : decide ((i : Int) < bitsOf a.fam) = false := decide_eq_false (by have := bitsOf_le a.fam; omega)
      rw [hk, ← HW.out] at HX
      clear hlt hk
      have HO := Aside0.mk (ok_fillA a HA.out n)
      go_wp2_with (first
        | ((with_reducible refine gate_dst (N := 43) rfl ?_); refine wpList_load_row rfl 30 (.tmp 3) rfl g3 rfl 30 (eA (fillA a n)) (0, 0) _ HX.out Tryz.underlying30 rfl (infoE HO.out) ?_)
        | ((with_reducible refine gate_store (t := 30) (p := 6) rfl ?_); refine wpList_store_row rfl 30 (.tmp 6) (.tmp 43) rfl g6 (eA (fillA a n)) rfl rfl 30 (eA noA) HY.out (infoE HO.out) ((eA_size ok_noA).trans (eA_size HO.out).symm) (eA_one _) ?_; have HY6 := Aside0.mk (row_new (cells := eA (fillA a n)) HY.out); have HB6 := Aside0.mk (below_row HB.out HG6.out (eA (fillA a n)))))
      refine bodyPost_ret (results_cell_row rfl _ _ g6 30 (eA (fillA a n)) (0, 0) _ rfl HY6.out Tryz.underlying30 rfl (infoE HO.out)) rfl ?_
      exact ⟨rfl, HB6.out⟩
/-! ### cidr.Mask, cidr.May -/
def maskQ (a : Ad) (n : Int) : Pf := ⟨fillA a (maskN a n), maskN a n⟩
theorem ok_maskQ (a : Ad) (ha : a.ok) (n : Int) : (maskQ a n).a.ok := ok_fillA a ha _
set_option maxHeartbeats 4000000 in
set_option maxRecDepth 100000 in
theorem cidr_Mask (a : Ad) (ha : a.ok) (n : Int) (w : World) : Calls Tryz.prog 50 #[.agg (eA a), .int .i64 n] w fun e w' => e = .returned (.agg (eP (maskQ a n))) ∧ Below w.heap.size w w' := by
  have HB := Aside0.mk (Below.refl w.heap.size w)
  have HA := Aside0.mk ha
  have HO := Aside0.mk (ok_maskQ a ha n)
  have HM := Aside0.mk (show (if bitsOf a.fam < (if n < 0 then 0 else n) then bitsOf a.fam else (if n < 0 then 0 else n)) = maskN a n from rfl)
  clear ha
  go_enter Tryz.func50, Tryz.ntmps50
  go_wp2_with (first
    | ((with_reducible refine gate_dst (N := 2) rfl ?_); refine box_event ?hg (N := 2) ?hd (cs := eA a) (t := 30) ?hr ?_; (case hd => rfl); (case hg => rfl); (case hr => first | (go_simp; done) | (go_simp; rfl)); intro g2 hg w1 hbox hb; have HX := Aside0.mk hbox; replace HB := Aside0.mk (below_step (bel_later HB.out) hb); clear hb hg hbox)
    | ((with_reducible refine gate_dst (N := 4) rfl ?_); refine box_event ?hg (N := 4) ?hd (cs := eP noP) (t := 42) ?hr ?_; (case hd => rfl); (case hg => rfl); (case hr => first | (go_simp; done) | (go_simp; rfl)); intro g4 hg w2 hbox hb; have HY := Aside0.mk hbox; have HG4 := Aside0.mk (show w.heap.size ≤ g4 by rw [hg]; exact below_size (bel_later HB.out)); replace HX := Aside0.mk (blk_below (blk_later HX.out) hb); replace HB := Aside0.mk (below_step (bel_later HB.out) hb); clear hb hg hbox)
    | ((with_reducible refine gate_dst (N := 8) rfl ?_); refine wpList_load_row rfl 30 (.tmp 2) rfl g2 rfl 30 (eA a) (0, 0) _ HX.out Tryz.underlying30 rfl (infoE HA.out) ?_)
    | (go_at_call 48; refine (addr_Bits a w2).mono ?_; rintro e w3 ⟨rfl, hb⟩; have HX3 := Aside0.mk (blk_below HX.out hb); have HY3 := Aside0.mk (blk_below HY.out hb); have HB3 := Aside0.mk (below_step HB.out hb); clear hb)
    | ((with_reducible refine gate_dst (N := 11) rfl ?_); refine wpList_load_row rfl 30 (.tmp 2) rfl g2 rfl 30 (eA a) (0, 0) _ HX3.out Tryz.underlying30 rfl (infoE HA.out) ?_)
    | (go_at_call 82; rw [HM.out]; refine (cidr_fill a HA.out (maskN a n) w3).mono ?_; rintro e w4 ⟨rfl, hb⟩; have HY4 := Aside0.mk (blk_below HY3.out hb); have HB4 := Aside0.mk (below_step HB3.out hb); clear hb)
    | ((with_reducible refine gate_dst (N := 15) rfl ?_); refine wpList_buildTo rfl 42 _ rfl _ rfl (eP (maskQ a n)) ?hbb ?_; (case hbb => rw [List.map_toArray]; exact built_pf HO.out (maskN a n)))
    | ((with_reducible refine gate_store (t := 42) (p := 4) rfl ?_); refine wpList_store_row rfl 42 (.tmp 4) (.tmp 15) rfl g4 (eP (maskQ a n)) rfl rfl 42 (eP noP) HY4.out (infoEP HO.out) ((eP_size (p := noP) ok_noA).trans (eP_size HO.out).symm) (eP_one _) ?_; have HY5 := Aside0.mk (row_new (cells := eP (maskQ a n)) HY4.out); have HB5 := Aside0.mk (below_row HB4.out HG4.out (eP (maskQ a n)))))
  all_goals
    refine bodyPost_ret (results_cell_row rfl _ _ g4 42 (eP (maskQ a n)) (0, 0) _ rfl HY5.out Tryz.underlying42 rfl (infoEP HO.out)) rfl ?_
    exact ⟨rfl, HB5.out⟩
def mayQ (p : Pf) : Bool := mayA p.a && (p.a.fam != 0) && decide (p = maskQ p.a p.n)
set_option maxHeartbeats 8000000 in
set_option maxRecDepth 100000 in
theorem cidr_May (p : Pf) (hp : p.a.ok) (w : World) : Calls Tryz.prog 40 #[.agg (eP p)] w fun e w' => e = .returned (.bool (mayQ p)) ∧ Below w.heap.size w w' := by
  have HB := Aside0.mk (Below.refl w.heap.size w)
  have HP := Aside0.mk hp
  have HO := Aside0.mk (ok_maskQ p.a hp p.n)
  have HR := Aside0.mk (show mayQ p = (mayA p.a && (p.a.fam != 0) && decide (p = maskQ p.a p.n)) from rfl)
  clear hp
  cases hm : mayA p.a
  · have HM := Aside0.mk hm
    have HR2 := Aside0.mk (show mayQ p = false by rw [HR.out, hm]; rfl)
    clear hm
    go_enter Tryz.func40, Tryz.ntmps40
    go_wp2_with ((with_reducible refine gate_dst (N := 1) rfl ?_); refine box_event ?hg (N := 1) ?hd (cs := eP p) (t := 42) ?hr ?_; (case hd => rfl); (case hg => rfl); (case hr => first | (go_simp; done) | (go_simp; rfl)); intro g1 hg w1 hbox hb; have HX := Aside0.mk hbox; replace HB := Aside0.mk (below_step (bel_later HB.out) hb); clear hb hg hbox)
    obtain ⟨S, hS⟩ : ∃ S : World → Prop, S = fun w' => w'.heap[g1]? = some (.cells (eP p) 42 (0, 0)) ∧ Below w.heap.size w w' := ⟨_, rfl⟩
    have HSt := Aside0.mk (show ∀ a b : World, S a → Below a.heap.size a b → S b by
      intro a b h hb
      rw [hS] at h ⊢
      exact ⟨blk_below h.1 hb, below_step h.2 hb⟩)
    have HSx := Aside0.mk (show ∀ x : World, S x → x.heap[g1]? = some (.cells (eP p) 42 (0, 0)) ∧ Below w.heap.size w x by
      intro b h
      rw [hS] at h
      exact h)
    have s0 : S w1.drew := by rw [hS]; exact ⟨blk_later HX.out, bel_later HB.out⟩
    clear hS
    refine wp_region_held_drew (S := S) (by kernel_rfl) s0 (fun _ => ?_)
    refine anyH_world s0 (fun w5 s5 => ?_)
    clear s0
    have s0 := s5
    clear s5
    refine wpAnyH_take (i := 0) (v := .pointer (some ⟨g1, 0, none⟩)) rfl (by kernel_rfl) (by kernel_rfl) (by kernel_rfl) (fun _ _ _ h => h) (Or.inl ⟨by kernel_rfl, fun w' h => by first | (go_simp; done) | (go_simp; rfl)⟩) s0 ?_
    (try simp only [Act.put, List.getElem_toArray, List.getElem_cons_succ, List.getElem_cons_zero, List.setIfInBounds_toArray, List.set_cons_zero, List.set_cons_succ])
    refine wpAnyH_take (i := 1) (v := .agg (lA p.a).toArray) rfl ?ya1b ?ya1c ?ya1d (fun _ _ _ h => h) ?ya1e s0 ?ya1f
    case ya1b => kernel_rfl
    case ya1c => kernel_rfl
    case ya1d => kernel_rfl
    case ya1e =>
      refine yieldsIf_load_mid ?ya1g 30 (.tmp 3) ?ya1h g1 0 ?ya1i (lA p.a) _ ?ya1j Tryz.underlying30 ?ya1k (infoL HP.out)
      case ya1g => kernel_rfl
      case ya1h => kernel_rfl
      case ya1i => kernel_rfl
      case ya1k => kernel_rfl
      case ya1j => exact fun w' h => part_addr (HSx.out w' h).1
    (try simp only [Act.put, List.getElem_toArray, List.getElem_cons_succ, List.getElem_cons_zero, List.setIfInBounds_toArray, List.set_cons_zero, List.set_cons_succ])
    refine held_step (i := 2) (by kernel_rfl) rfl (by kernel_rfl) (fun K hK => ?_)
    go_wp2_with (go_at_call 69; refine (addr_May p.a HP.out w5).mono ?_; rintro e w6 ⟨rfl, hb⟩; rw [HM.out]; have s1 := HSt.out _ _ s0 hb; clear hb)
    refine hK.out _ _ s1 ?_
    clear hK K
    (try simp only [Act.put, List.getElem_toArray, List.getElem_cons_succ, List.getElem_cons_zero, List.setIfInBounds_toArray, List.set_cons_zero, List.set_cons_succ])
    refine wpAnyH_take (i := 3) (v := .bool false) rfl (by kernel_rfl) (by kernel_rfl) (by kernel_rfl) (fun _ _ _ h => h) (Or.inl ⟨by kernel_rfl, fun w' h => by first | (go_simp; done) | (go_simp; rfl)⟩) s1 ?_
    (try simp only [Act.put, List.getElem_toArray, List.getElem_cons_succ, List.getElem_cons_zero, List.setIfInBounds_toArray, List.set_cons_zero, List.set_cons_succ])
    refine wpAnyH_take (i := 4) (v := undef) rfl (by kernel_rfl) (by kernel_rfl) (by kernel_rfl) (fun _ _ _ h => h) (Or.inr ⟨by kernel_rfl, rfl⟩) s1 ?_
    (try simp only [Act.put, List.getElem_toArray, List.getElem_cons_succ, List.getElem_cons_zero, List.setIfInBounds_toArray, List.set_cons_zero, List.set_cons_succ])
    refine wpAnyH_take (i := 5) (v := undef) rfl (by kernel_rfl) (by kernel_rfl) (by kernel_rfl) (fun _ _ _ h => h) (Or.inr ⟨by kernel_rfl, rfl⟩) s1 ?_
    (try simp only [Act.put, List.getElem_toArray, List.getElem_cons_succ, List.getElem_cons_zero, List.setIfInBounds_toArray, List.set_cons_zero, List.set_cons_succ])
    refine wpAnyH_take (i := 6) (v := undef) rfl (by kernel_rfl) (by kernel_rfl) (by kernel_rfl) (fun _ _ _ h => h) (Or.inr ⟨by kernel_rfl, rfl⟩) s1 ?_
    (try simp only [Act.put, List.getElem_toArray, List.getElem_cons_succ, List.getElem_cons_zero, List.setIfInBounds_toArray, List.set_cons_zero, List.set_cons_succ])
    refine wpAnyH_take (i := 7) (v := undef) rfl (by kernel_rfl) (by kernel_rfl) (by kernel_rfl) (fun _ _ _ h => h) (Or.inr ⟨by kernel_rfl, rfl⟩) s1 ?_
    (try simp only [Act.put, List.getElem_toArray, List.getElem_cons_succ, List.getElem_cons_zero, List.setIfInBounds_toArray, List.set_cons_zero, List.set_cons_succ])
    refine wpAnyH_take (i := 8) (v := .bool false) rfl (by kernel_rfl) (by kernel_rfl) (by kernel_rfl) (fun _ _ _ h => h) (Or.inl ⟨by kernel_rfl, fun w' h => by first | (go_simp; done) | (go_simp; rfl)⟩) s1 ?_
    (try simp only [Act.put, List.getElem_toArray, List.getElem_cons_succ, List.getElem_cons_zero, List.setIfInBounds_toArray, List.set_cons_zero, List.set_cons_succ])
    refine wpAnyH_take (i := 9) (v := .bool false) rfl (by kernel_rfl) (by kernel_rfl) (by kernel_rfl) (fun _ _ _ h => h) (Or.inl ⟨by kernel_rfl, fun w' h => by first | (go_simp; done) | (go_simp; rfl)⟩) s1 ?_
    (try simp only [Act.put, List.getElem_toArray, List.getElem_cons_succ, List.getElem_cons_zero, List.setIfInBounds_toArray, List.set_cons_zero, List.set_cons_succ])
    refine wpAnyH_take (i := 10) (v := undef) rfl (by kernel_rfl) (by kernel_rfl) (by kernel_rfl) (fun _ _ _ h => h) (Or.inr ⟨by kernel_rfl, rfl⟩) s1 ?_
    (try simp only [Act.put, List.getElem_toArray, List.getElem_cons_succ, List.getElem_cons_zero, List.setIfInBounds_toArray, List.set_cons_zero, List.set_cons_succ])
    refine wpAnyH_take (i := 11) (v := undef) rfl (by kernel_rfl) (by kernel_rfl) (by kernel_rfl) (fun _ _ _ h => h) (Or.inr ⟨by kernel_rfl, rfl⟩) s1 ?_
    (try simp only [Act.put, List.getElem_toArray, List.getElem_cons_succ, List.getElem_cons_zero, List.setIfInBounds_toArray, List.set_cons_zero, List.set_cons_succ])
    refine wpAnyH_take (i := 12) (v := undef) rfl (by kernel_rfl) (by kernel_rfl) (by kernel_rfl) (fun _ _ _ h => h) (Or.inr ⟨by kernel_rfl, rfl⟩) s1 ?_
    (try simp only [Act.put, List.getElem_toArray, List.getElem_cons_succ, List.getElem_cons_zero, List.setIfInBounds_toArray, List.set_cons_zero, List.set_cons_succ])
    refine wpAnyH_take (i := 13) (v := undef) rfl (by kernel_rfl) (by kernel_rfl) (by kernel_rfl) (fun _ _ _ h => h) (Or.inr ⟨by kernel_rfl, rfl⟩) s1 ?_
    (try simp only [Act.put, List.getElem_toArray, List.getElem_cons_succ, List.getElem_cons_zero, List.setIfInBounds_toArray, List.set_cons_zero, List.set_cons_succ])
    refine wpAnyH_take (i := 14) (v := undef) rfl (by kernel_rfl) (by kernel_rfl) (by kernel_rfl) (fun _ _ _ h => h) (Or.inr ⟨by kernel_rfl, rfl⟩) s1 ?_
    (try simp only [Act.put, List.getElem_toArray, List.getElem_cons_succ, List.getElem_cons_zero, List.setIfInBounds_toArray, List.set_cons_zero, List.set_cons_succ])
    refine wpAnyH_take (i := 15) (v := undef) rfl (by kernel_rfl) (by kernel_rfl) (by kernel_rfl) (fun _ _ _ h => h) (Or.inr ⟨by kernel_rfl, rfl⟩) s1 ?_
    (try simp only [Act.put, List.getElem_toArray, List.getElem_cons_succ, List.getElem_cons_zero, List.setIfInBounds_toArray, List.set_cons_zero, List.set_cons_succ])
    refine wpAnyH_take (i := 16) (v := undef) rfl (by kernel_rfl) (by kernel_rfl) (by kernel_rfl) (fun _ _ _ h => h) (Or.inr ⟨by kernel_rfl, rfl⟩) s1 ?_
    (try simp only [Act.put, List.getElem_toArray, List.getElem_cons_succ, List.getElem_cons_zero, List.setIfInBounds_toArray, List.set_cons_zero, List.set_cons_succ])
    refine wpAnyH_take (i := 17) (v := .bool false) rfl (by kernel_rfl) (by kernel_rfl) (by kernel_rfl) (fun _ _ _ h => h) (Or.inl ⟨by kernel_rfl, fun w' h => by first | (go_simp; done) | (go_simp; rfl)⟩) s1 ?_
    (try simp only [Act.put, List.getElem_toArray, List.getElem_cons_succ, List.getElem_cons_zero, List.setIfInBounds_toArray, List.set_cons_zero, List.set_cons_succ])
    refine held_step (i := 18) (by kernel_rfl) rfl (by kernel_rfl) (fun K hK => ?_)
    go_wp2
    refine hK.out _ _ s1 ?_
    clear hK K
    (try simp only [Act.put, List.getElem_toArray, List.getElem_cons_succ, List.getElem_cons_zero, List.setIfInBounds_toArray, List.set_cons_zero, List.set_cons_succ])
    refine wpAnyH_done (by kernel_rfl) ?_ _
    have HF := Aside0.mk (HSx.out _ s1).2
    clear s0 s1
    go_wp2
    go_ret
    exact ⟨by rw [HR2.out]; first | done | rfl, HF.out⟩
  · by_cases hz : p.a.fam = 0
    · have HM := Aside0.mk hm
      have c0b0 : (p.a.fam != 0) = false := by simpa using hz
      have c0b1 : (p.a.fam == 0) = true := by simpa using hz
      have HR2 := Aside0.mk (show mayQ p = false by rw [HR.out, hm, c0b0]; rfl)
      clear hm hz
      go_enter Tryz.func40, Tryz.ntmps40
      go_wp2_with ((with_reducible refine gate_dst (N := 1) rfl ?_); refine box_event ?hg (N := 1) ?hd (cs := eP p) (t := 42) ?hr ?_; (case hd => rfl); (case hg => rfl); (case hr => first | (go_simp; done) | (go_simp; rfl)); intro g1 hg w1 hbox hb; have HX := Aside0.mk hbox; replace HB := Aside0.mk (below_step (bel_later HB.out) hb); clear hb hg hbox)
      obtain ⟨S, hS⟩ : ∃ S : World → Prop, S = fun w' => w'.heap[g1]? = some (.cells (eP p) 42 (0, 0)) ∧ Below w.heap.size w w' := ⟨_, rfl⟩
      have HSt := Aside0.mk (show ∀ a b : World, S a → Below a.heap.size a b → S b by
        intro a b h hb
        rw [hS] at h ⊢
        exact ⟨blk_below h.1 hb, below_step h.2 hb⟩)
      have HSx := Aside0.mk (show ∀ x : World, S x → x.heap[g1]? = some (.cells (eP p) 42 (0, 0)) ∧ Below w.heap.size w x by
        intro b h
        rw [hS] at h
        exact h)
      have s0 : S w1.drew := by rw [hS]; exact ⟨blk_later HX.out, bel_later HB.out⟩
      clear hS
      refine wp_region_held_drew (S := S) (by kernel_rfl) s0 (fun _ => ?_)
      refine anyH_world s0 (fun w5 s5 => ?_)
      clear s0
      have s0 := s5
      clear s5
      refine wpAnyH_take (i := 0) (v := .pointer (some ⟨g1, 0, none⟩)) rfl (by kernel_rfl) (by kernel_rfl) (by kernel_rfl) (fun _ _ _ h => h) (Or.inl ⟨by kernel_rfl, fun w' h => by first | (go_simp; done) | (go_simp; rfl)⟩) s0 ?_
      (try simp only [Act.put, List.getElem_toArray, List.getElem_cons_succ, List.getElem_cons_zero, List.setIfInBounds_toArray, List.set_cons_zero, List.set_cons_succ])
      refine wpAnyH_take (i := 1) (v := .agg (lA p.a).toArray) rfl ?yb1b ?yb1c ?yb1d (fun _ _ _ h => h) ?yb1e s0 ?yb1f
      case yb1b => kernel_rfl
      case yb1c => kernel_rfl
      case yb1d => kernel_rfl
      case yb1e =>
        refine yieldsIf_load_mid ?yb1g 30 (.tmp 3) ?yb1h g1 0 ?yb1i (lA p.a) _ ?yb1j Tryz.underlying30 ?yb1k (infoL HP.out)
        case yb1g => kernel_rfl
        case yb1h => kernel_rfl
        case yb1i => kernel_rfl
        case yb1k => kernel_rfl
        case yb1j => exact fun w' h => part_addr (HSx.out w' h).1
      (try simp only [Act.put, List.getElem_toArray, List.getElem_cons_succ, List.getElem_cons_zero, List.setIfInBounds_toArray, List.set_cons_zero, List.set_cons_succ])
      refine held_step (i := 2) (by kernel_rfl) rfl (by kernel_rfl) (fun K hK => ?_)
      go_wp2_with (go_at_call 69; refine (addr_May p.a HP.out w5).mono ?_; rintro e w6 ⟨rfl, hb⟩; rw [HM.out]; have s1 := HSt.out _ _ s0 hb; clear hb)
      refine hK.out _ _ s1 ?_
      clear hK K
      (try simp only [Act.put, List.getElem_toArray, List.getElem_cons_succ, List.getElem_cons_zero, List.setIfInBounds_toArray, List.set_cons_zero, List.set_cons_succ])
      refine wpAnyH_take (i := 3) (v := .bool true) rfl (by kernel_rfl) (by kernel_rfl) (by kernel_rfl) (fun _ _ _ h => h) (Or.inl ⟨by kernel_rfl, fun w' h => by first | (go_simp; done) | (go_simp; rfl)⟩) s1 ?_
      (try simp only [Act.put, List.getElem_toArray, List.getElem_cons_succ, List.getElem_cons_zero, List.setIfInBounds_toArray, List.set_cons_zero, List.set_cons_succ])
      refine wpAnyH_take (i := 4) (v := .pointer (some ⟨g1, 0, none⟩)) rfl (by kernel_rfl) (by kernel_rfl) (by kernel_rfl) (fun _ _ _ h => h) (Or.inl ⟨by kernel_rfl, fun w' h => by first | (go_simp; done) | (go_simp; rfl)⟩) s1 ?_
      (try simp only [Act.put, List.getElem_toArray, List.getElem_cons_succ, List.getElem_cons_zero, List.setIfInBounds_toArray, List.set_cons_zero, List.set_cons_succ])
      refine wpAnyH_take (i := 5) (v := .pointer (some ⟨g1, 0, none⟩)) rfl (by kernel_rfl) (by kernel_rfl) (by kernel_rfl) (fun _ _ _ h => h) (Or.inl ⟨by kernel_rfl, fun w' h => by first | (go_simp; done) | (go_simp; rfl)⟩) s1 ?_
      (try simp only [Act.put, List.getElem_toArray, List.getElem_cons_succ, List.getElem_cons_zero, List.setIfInBounds_toArray, List.set_cons_zero, List.set_cons_succ])
      refine wpAnyH_take (i := 6) (v := .int .i64 p.a.fam) rfl (by kernel_rfl) (by kernel_rfl) (by kernel_rfl) (fun _ _ _ h => h) (Or.inl ⟨by kernel_rfl, fun w' h => by have hf := (blk_cell (HSx.out w' h).1 0).trans (eP_fam p); first | (go_simp; done) | (go_simp; rfl)⟩) s1 ?_
      (try simp only [Act.put, List.getElem_toArray, List.getElem_cons_succ, List.getElem_cons_zero, List.setIfInBounds_toArray, List.set_cons_zero, List.set_cons_succ])
      refine wpAnyH_take (i := 7) (v := .bool false) rfl (by kernel_rfl) (by kernel_rfl) (by kernel_rfl) (fun _ _ _ h => h) (Or.inl ⟨by kernel_rfl, fun w' h => by first | (go_simp; done) | (go_simp; rfl)⟩) s1 ?_
      (try simp only [Act.put, List.getElem_toArray, List.getElem_cons_succ, List.getElem_cons_zero, List.setIfInBounds_toArray, List.set_cons_zero, List.set_cons_succ])
      refine wpAnyH_take (i := 8) (v := .bool false) rfl (by kernel_rfl) (by kernel_rfl) (by kernel_rfl) (fun _ _ _ h => h) (Or.inl ⟨by kernel_rfl, fun w' h => by first | (go_simp; done) | (go_simp; rfl)⟩) s1 ?_
      (try simp only [Act.put, List.getElem_toArray, List.getElem_cons_succ, List.getElem_cons_zero, List.setIfInBounds_toArray, List.set_cons_zero, List.set_cons_succ])
      refine wpAnyH_take (i := 9) (v := .bool false) rfl (by kernel_rfl) (by kernel_rfl) (by kernel_rfl) (fun _ _ _ h => h) (Or.inl ⟨by kernel_rfl, fun w' h => by first | (go_simp; done) | (go_simp; rfl)⟩) s1 ?_
      (try simp only [Act.put, List.getElem_toArray, List.getElem_cons_succ, List.getElem_cons_zero, List.setIfInBounds_toArray, List.set_cons_zero, List.set_cons_succ])
      refine wpAnyH_take (i := 10) (v := undef) rfl (by kernel_rfl) (by kernel_rfl) (by kernel_rfl) (fun _ _ _ h => h) (Or.inr ⟨by kernel_rfl, rfl⟩) s1 ?_
      (try simp only [Act.put, List.getElem_toArray, List.getElem_cons_succ, List.getElem_cons_zero, List.setIfInBounds_toArray, List.set_cons_zero, List.set_cons_succ])
      refine wpAnyH_take (i := 11) (v := undef) rfl (by kernel_rfl) (by kernel_rfl) (by kernel_rfl) (fun _ _ _ h => h) (Or.inr ⟨by kernel_rfl, rfl⟩) s1 ?_
      (try simp only [Act.put, List.getElem_toArray, List.getElem_cons_succ, List.getElem_cons_zero, List.setIfInBounds_toArray, List.set_cons_zero, List.set_cons_succ])
      refine wpAnyH_take (i := 12) (v := undef) rfl (by kernel_rfl) (by kernel_rfl) (by kernel_rfl) (fun _ _ _ h => h) (Or.inr ⟨by kernel_rfl, rfl⟩) s1 ?_
      (try simp only [Act.put, List.getElem_toArray, List.getElem_cons_succ, List.getElem_cons_zero, List.setIfInBounds_toArray, List.set_cons_zero, List.set_cons_succ])
      refine wpAnyH_take (i := 13) (v := undef) rfl (by kernel_rfl) (by kernel_rfl) (by kernel_rfl) (fun _ _ _ h => h) (Or.inr ⟨by kernel_rfl, rfl⟩) s1 ?_
      (try simp only [Act.put, List.getElem_toArray, List.getElem_cons_succ, List.getElem_cons_zero, List.setIfInBounds_toArray, List.set_cons_zero, List.set_cons_succ])
      refine wpAnyH_take (i := 14) (v := undef) rfl (by kernel_rfl) (by kernel_rfl) (by kernel_rfl) (fun _ _ _ h => h) (Or.inr ⟨by kernel_rfl, rfl⟩) s1 ?_
      (try simp only [Act.put, List.getElem_toArray, List.getElem_cons_succ, List.getElem_cons_zero, List.setIfInBounds_toArray, List.set_cons_zero, List.set_cons_succ])
      refine wpAnyH_take (i := 15) (v := undef) rfl (by kernel_rfl) (by kernel_rfl) (by kernel_rfl) (fun _ _ _ h => h) (Or.inr ⟨by kernel_rfl, rfl⟩) s1 ?_
      (try simp only [Act.put, List.getElem_toArray, List.getElem_cons_succ, List.getElem_cons_zero, List.setIfInBounds_toArray, List.set_cons_zero, List.set_cons_succ])
      refine wpAnyH_take (i := 16) (v := undef) rfl (by kernel_rfl) (by kernel_rfl) (by kernel_rfl) (fun _ _ _ h => h) (Or.inr ⟨by kernel_rfl, rfl⟩) s1 ?_
      (try simp only [Act.put, List.getElem_toArray, List.getElem_cons_succ, List.getElem_cons_zero, List.setIfInBounds_toArray, List.set_cons_zero, List.set_cons_succ])
      refine wpAnyH_take (i := 17) (v := .bool false) rfl (by kernel_rfl) (by kernel_rfl) (by kernel_rfl) (fun _ _ _ h => h) (Or.inl ⟨by kernel_rfl, fun w' h => by first | (go_simp; done) | (go_simp; rfl)⟩) s1 ?_
      (try simp only [Act.put, List.getElem_toArray, List.getElem_cons_succ, List.getElem_cons_zero, List.setIfInBounds_toArray, List.set_cons_zero, List.set_cons_succ])
      refine held_step (i := 18) (by kernel_rfl) rfl (by kernel_rfl) (fun K hK => ?_)
      go_wp2
      refine hK.out _ _ s1 ?_
      clear hK K
      (try simp only [Act.put, List.getElem_toArray, List.getElem_cons_succ, List.getElem_cons_zero, List.setIfInBounds_toArray, List.set_cons_zero, List.set_cons_succ])
      refine wpAnyH_done (by kernel_rfl) ?_ _
      have HF := Aside0.mk (HSx.out _ s1).2
      clear s0 s1
      go_wp2
      go_ret
      exact ⟨by rw [HR2.out]; first | done | rfl, HF.out⟩
    · have HM := Aside0.mk hm
      have c0b0 : (p.a.fam != 0) = true := by simpa using hz
      have c0b1 : (p.a.fam == 0) = false := by simpa using hz
      have HR2 := Aside0.mk (show mayQ p = decide (p = maskQ p.a p.n) by rw [HR.out, hm, c0b0]; rfl)
      clear hm hz
      go_enter Tryz.func40, Tryz.ntmps40
      go_wp2_with ((with_reducible refine gate_dst (N := 1) rfl ?_); refine box_event ?hg (N := 1) ?hd (cs := eP p) (t := 42) ?hr ?_; (case hd => rfl); (case hg => rfl); (case hr => first | (go_simp; done) | (go_simp; rfl)); intro g1 hg w1 hbox hb; have HX := Aside0.mk hbox; replace HB := Aside0.mk (below_step (bel_later HB.out) hb); clear hb hg hbox)
      obtain ⟨S, hS⟩ : ∃ S : World → Prop, S = fun w' => w'.heap[g1]? = some (.cells (eP p) 42 (0, 0)) ∧ Below w.heap.size w w' := ⟨_, rfl⟩
      have HSt := Aside0.mk (show ∀ a b : World, S a → Below a.heap.size a b → S b by
        intro a b h hb
        rw [hS] at h ⊢
        exact ⟨blk_below h.1 hb, below_step h.2 hb⟩)
      have HSx := Aside0.mk (show ∀ x : World, S x → x.heap[g1]? = some (.cells (eP p) 42 (0, 0)) ∧ Below w.heap.size w x by
        intro b h
        rw [hS] at h
        exact h)
      have s0 : S w1.drew := by rw [hS]; exact ⟨blk_later HX.out, bel_later HB.out⟩
      clear hS
      refine wp_region_held_drew (S := S) (by kernel_rfl) s0 (fun _ => ?_)
      refine anyH_world s0 (fun w5 s5 => ?_)
      clear s0
      have s0 := s5
      clear s5
      refine wpAnyH_take (i := 0) (v := .pointer (some ⟨g1, 0, none⟩)) rfl (by kernel_rfl) (by kernel_rfl) (by kernel_rfl) (fun _ _ _ h => h) (Or.inl ⟨by kernel_rfl, fun w' h => by first | (go_simp; done) | (go_simp; rfl)⟩) s0 ?_
      (try simp only [Act.put, List.getElem_toArray, List.getElem_cons_succ, List.getElem_cons_zero, List.setIfInBounds_toArray, List.set_cons_zero, List.set_cons_succ])
      refine wpAnyH_take (i := 1) (v := .agg (lA p.a).toArray) rfl ?yc1b ?yc1c ?yc1d (fun _ _ _ h => h) ?yc1e s0 ?yc1f
      case yc1b => kernel_rfl
      case yc1c => kernel_rfl
      case yc1d => kernel_rfl
      case yc1e =>
        refine yieldsIf_load_mid ?yc1g 30 (.tmp 3) ?yc1h g1 0 ?yc1i (lA p.a) _ ?yc1j Tryz.underlying30 ?yc1k (infoL HP.out)
        case yc1g => kernel_rfl
        case yc1h => kernel_rfl
        case yc1i => kernel_rfl
        case yc1k => kernel_rfl
        case yc1j => exact fun w' h => part_addr (HSx.out w' h).1
      (try simp only [Act.put, List.getElem_toArray, List.getElem_cons_succ, List.getElem_cons_zero, List.setIfInBounds_toArray, List.set_cons_zero, List.set_cons_succ])
      refine held_step (i := 2) (by kernel_rfl) rfl (by kernel_rfl) (fun K hK => ?_)
      go_wp2_with (go_at_call 69; refine (addr_May p.a HP.out w5).mono ?_; rintro e w6 ⟨rfl, hb⟩; rw [HM.out]; have s1 := HSt.out _ _ s0 hb; clear hb)
      refine hK.out _ _ s1 ?_
      clear hK K
      (try simp only [Act.put, List.getElem_toArray, List.getElem_cons_succ, List.getElem_cons_zero, List.setIfInBounds_toArray, List.set_cons_zero, List.set_cons_succ])
      refine wpAnyH_take (i := 3) (v := .bool true) rfl (by kernel_rfl) (by kernel_rfl) (by kernel_rfl) (fun _ _ _ h => h) (Or.inl ⟨by kernel_rfl, fun w' h => by first | (go_simp; done) | (go_simp; rfl)⟩) s1 ?_
      (try simp only [Act.put, List.getElem_toArray, List.getElem_cons_succ, List.getElem_cons_zero, List.setIfInBounds_toArray, List.set_cons_zero, List.set_cons_succ])
      refine wpAnyH_take (i := 4) (v := .pointer (some ⟨g1, 0, none⟩)) rfl (by kernel_rfl) (by kernel_rfl) (by kernel_rfl) (fun _ _ _ h => h) (Or.inl ⟨by kernel_rfl, fun w' h => by first | (go_simp; done) | (go_simp; rfl)⟩) s1 ?_
      (try simp only [Act.put, List.getElem_toArray, List.getElem_cons_succ, List.getElem_cons_zero, List.setIfInBounds_toArray, List.set_cons_zero, List.set_cons_succ])
      refine wpAnyH_take (i := 5) (v := .pointer (some ⟨g1, 0, none⟩)) rfl (by kernel_rfl) (by kernel_rfl) (by kernel_rfl) (fun _ _ _ h => h) (Or.inl ⟨by kernel_rfl, fun w' h => by first | (go_simp; done) | (go_simp; rfl)⟩) s1 ?_
      (try simp only [Act.put, List.getElem_toArray, List.getElem_cons_succ, List.getElem_cons_zero, List.setIfInBounds_toArray, List.set_cons_zero, List.set_cons_succ])
      refine wpAnyH_take (i := 6) (v := .int .i64 p.a.fam) rfl (by kernel_rfl) (by kernel_rfl) (by kernel_rfl) (fun _ _ _ h => h) (Or.inl ⟨by kernel_rfl, fun w' h => by have hf := (blk_cell (HSx.out w' h).1 0).trans (eP_fam p); first | (go_simp; done) | (go_simp; rfl)⟩) s1 ?_
      (try simp only [Act.put, List.getElem_toArray, List.getElem_cons_succ, List.getElem_cons_zero, List.setIfInBounds_toArray, List.set_cons_zero, List.set_cons_succ])
      refine wpAnyH_take (i := 7) (v := .bool true) rfl (by kernel_rfl) (by kernel_rfl) (by kernel_rfl) (fun _ _ _ h => h) (Or.inl ⟨by kernel_rfl, fun w' h => by first | (go_simp; done) | (go_simp; rfl)⟩) s1 ?_
      (try simp only [Act.put, List.getElem_toArray, List.getElem_cons_succ, List.getElem_cons_zero, List.setIfInBounds_toArray, List.set_cons_zero, List.set_cons_succ])
      refine wpAnyH_take (i := 8) (v := .bool true) rfl (by kernel_rfl) (by kernel_rfl) (by kernel_rfl) (fun _ _ _ h => h) (Or.inl ⟨by kernel_rfl, fun w' h => by first | (go_simp; done) | (go_simp; rfl)⟩) s1 ?_
      (try simp only [Act.put, List.getElem_toArray, List.getElem_cons_succ, List.getElem_cons_zero, List.setIfInBounds_toArray, List.set_cons_zero, List.set_cons_succ])
      refine wpAnyH_take (i := 9) (v := .bool true) rfl (by kernel_rfl) (by kernel_rfl) (by kernel_rfl) (fun _ _ _ h => h) (Or.inl ⟨by kernel_rfl, fun w' h => by first | (go_simp; done) | (go_simp; rfl)⟩) s1 ?_
      (try simp only [Act.put, List.getElem_toArray, List.getElem_cons_succ, List.getElem_cons_zero, List.setIfInBounds_toArray, List.set_cons_zero, List.set_cons_succ])
      refine wpAnyH_take (i := 10) (v := .agg (eP p)) rfl ?x10b ?x10c ?x10d (fun _ _ _ h => h) ?x10e s1 ?x10f
      case x10b => kernel_rfl
      case x10c => kernel_rfl
      case x10d => kernel_rfl
      case x10e => exact yields_row (by kernel_rfl) 42 (.tmp 1) rfl g1 rfl 42 (eP p) (0, 0) _ (fun w' h => (HSx.out w' h).1) Tryz.underlying42 rfl (infoEP HP.out)
      (try simp only [Act.put, List.getElem_toArray, List.getElem_cons_succ, List.getElem_cons_zero, List.setIfInBounds_toArray, List.set_cons_zero, List.set_cons_succ])
      refine wpAnyH_take (i := 11) (v := .pointer (some ⟨g1, 0, none⟩)) rfl (by kernel_rfl) (by kernel_rfl) (by kernel_rfl) (fun _ _ _ h => h) (Or.inl ⟨by kernel_rfl, fun w' h => by first | (go_simp; done) | (go_simp; rfl)⟩) s1 ?_
      (try simp only [Act.put, List.getElem_toArray, List.getElem_cons_succ, List.getElem_cons_zero, List.setIfInBounds_toArray, List.set_cons_zero, List.set_cons_succ])
      refine wpAnyH_take (i := 12) (v := .agg (lA p.a).toArray) rfl ?x12b ?x12c ?x12d (fun _ _ _ h => h) ?x12e s1 ?x12f
      case x12b => kernel_rfl
      case x12c => kernel_rfl
      case x12d => kernel_rfl
      case x12e =>
        refine yieldsIf_load_mid ?x12g 30 (.tmp 14) ?x12h g1 0 ?x12i (lA p.a) _ ?x12j Tryz.underlying30 ?x12k (infoL HP.out)
        case x12g => kernel_rfl
        case x12h => kernel_rfl
        case x12i => kernel_rfl
        case x12k => kernel_rfl
        case x12j => exact fun w' h => part_addr (HSx.out w' h).1
      (try simp only [Act.put, List.getElem_toArray, List.getElem_cons_succ, List.getElem_cons_zero, List.setIfInBounds_toArray, List.set_cons_zero, List.set_cons_succ])
      refine wpAnyH_take (i := 13) (v := .pointer (some ⟨g1, 17, none⟩)) rfl (by kernel_rfl) (by kernel_rfl) (by kernel_rfl) (fun _ _ _ h => h) (Or.inl ⟨by kernel_rfl, fun w' h => by first | (go_simp; done) | (go_simp; rfl)⟩) s1 ?_
      (try simp only [Act.put, List.getElem_toArray, List.getElem_cons_succ, List.getElem_cons_zero, List.setIfInBounds_toArray, List.set_cons_zero, List.set_cons_succ])
      refine wpAnyH_take (i := 14) (v := .int .i64 p.n) rfl (by kernel_rfl) (by kernel_rfl) (by kernel_rfl) (fun _ _ _ h => h) (Or.inl ⟨by kernel_rfl, fun w' h => by have hf := (blk_cell (HSx.out w' h).1 17).trans (eP_n HP.out); first | (go_simp; done) | (go_simp; rfl)⟩) s1 ?_
      (try simp only [Act.put, List.getElem_toArray, List.getElem_cons_succ, List.getElem_cons_zero, List.setIfInBounds_toArray, List.set_cons_zero, List.set_cons_succ])
      refine held_step (i := 15) (by kernel_rfl) rfl (by kernel_rfl) (fun K hK => ?_)
      go_wp2_with (go_at_call 50; refine (cidr_Mask p.a HP.out p.n w6).mono ?_; rintro e w7 ⟨rfl, hb⟩; have s2 := HSt.out _ _ s1 hb; clear hb)
      refine hK.out _ _ s2 ?_
      clear hK K
      (try simp only [Act.put, List.getElem_toArray, List.getElem_cons_succ, List.getElem_cons_zero, List.setIfInBounds_toArray, List.set_cons_zero, List.set_cons_succ])
      refine held_step (i := 16) (by kernel_rfl) rfl (by kernel_rfl) (fun K hK => ?_)
      refine wp_value_run (run_eql_op (r := decide (p = maskQ p.a p.n)) rfl rfl rfl (by kernel_rfl) (eq_pf 9996 p (maskQ p.a p.n) HP.out HO.out _)) ?_
      refine hK.out _ _ s2 ?_
      clear hK K
      (try simp only [Act.put, List.getElem_toArray, List.getElem_cons_succ, List.getElem_cons_zero, List.setIfInBounds_toArray, List.set_cons_zero, List.set_cons_succ])
      refine held_step (i := 17) (by kernel_rfl) rfl (by kernel_rfl) (fun K hK => ?_)
      go_wp2
      refine hK.out _ _ s2 ?_
      clear hK K
      (try simp only [Act.put, List.getElem_toArray, List.getElem_cons_succ, List.getElem_cons_zero, List.setIfInBounds_toArray, List.set_cons_zero, List.set_cons_succ])
      refine held_step (i := 18) (by kernel_rfl) rfl (by kernel_rfl) (fun K hK => ?_)
      go_wp2
      refine hK.out _ _ s2 ?_
      clear hK K
      (try simp only [Act.put, List.getElem_toArray, List.getElem_cons_succ, List.getElem_cons_zero, List.setIfInBounds_toArray, List.set_cons_zero, List.set_cons_succ])
      refine wpAnyH_done (by kernel_rfl) ?_ _
      have HF := Aside0.mk (HSx.out _ s2).2
      clear s0 s1 s2
      go_wp2
      go_ret
      exact ⟨by rw [HR2.out]; first | done | rfl, HF.out⟩
end Go.Proofs.YthdognlkacjkhaaGreatDoor.P
end
