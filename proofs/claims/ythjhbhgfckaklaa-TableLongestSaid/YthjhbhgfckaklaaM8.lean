/-
  Texts of the proof, put together.
-/
import Derived.Test.YthjhbhgfckaklaaM7
section
namespace Go.Proofs.Ythjhbhgfckaklaa.P
open Go.RowKit Go.Shelf Go.Proofs.YthjhbhgfckaklaaW.PrintWords Go.Proofs.YthjhbhgfckaklaaW.PrintLast Go.Proofs.YthjhbhgfckaklaaW.PrintMore
set_option linter.unusedVariables false
set_option linter.unusedSimpArgs false
theorem step_append_runA {P : Program} {ops : Array Oper} {o : Oper} {a : Act} {w : World} {K : Act → World → Prop} {Q : Exit → Act → World → Prop} {E : Prop}
    (hg : o.guard = none) (d x : Operand) (dT sT : TypeId) (hop : o.op = Op.call { callee := Callee.builtin Builtin.append, args := #[d, x], argTypes := #[dT, sT] })
    (v u : Value) (hd : a.eval d = v) (hx : a.eval x = u) {v' : Value} {w' : World} (hr : (Builtin.append_ #[dT, sT] o.type #[v, u]).run P w = .ok v' w') (hK : K (a.put o.dst v') w') :
    if Region.wanted o (yielded ops a.tmps) = true then Oper.wp P o a w K Q else E := by
  have hw : Region.wanted o (yielded ops a.tmps) = true := by simp [Region.wanted, hg]
  rw [if_pos hw]
  unfold Oper.wp
  simp [execOp, hop, resolve, invoke, builtin, hd, hx, hr, Result.andThen]
  exact hK
theorem zero_en : (Builtin.zeroCells (Value.agg (eE noE)).cells 1).toList = lE noE := by kernel_rfl
theorem run_clear_en (w : World) (ty : TypeId) (g o c : Nat) (cur : Array Value) (t : TypeId) (hg : w.heap[g]? = some (.cells cur t (0, 0))) (hfit : o + 19 ≤ cur.size) :
    (Builtin.clear_ #[50] ty #[.slice (some ⟨g, o, none⟩) 1 c]).run Try.prog w = .ok (.tuple #[]) (w.setRow g (cur.toList.take o ++ lE noE ++ cur.toList.drop (o + 19)).toArray) := by
  obtain ⟨i0, hi0, hz0, hz1, hz2⟩ := info_parts info_En
  have hst := run_storeCells_at Try.prog g o t (lE noE) 0 cur w hg (by rw [lE_len ok_noE]; exact hfit) (lE_one _)
  rw [lE_len ok_noE] at hst
  simp only [Nat.add_zero] at hst
  simp [Builtin.clear_, run_underlying Try.underlying50, zeroValue, typeInfo, hi0, hz0]
  rw [zero_en, hst]
  simp [Result.andThen]
def outE (l : List En) (i : Nat) : List En := l.take i ++ l.drop (i + 1)
theorem outE_length (l : List En) (i : Nat) (h : i < l.length) : (outE l i).length + 1 = l.length := by unfold outE; rw [List.length_append, List.length_take, List.length_drop]; omega
theorem ok_outE {l : List En} (hl : okE l) (i : Nat) : okE (outE l i) := by
  intro e he
  rcases List.mem_append.1 he with h | h
  · exact hl e (List.mem_of_mem_take h)
  · exact hl e (List.mem_of_mem_drop h)
set_option maxHeartbeats 4000000 in
set_option maxRecDepth 100000 in
theorem del_one (base g cap i j : Nat) (l : List En) (hl0 : okE l) (w : World) (hrow : w.ownsRow base 42 19 (.slice (some ⟨g, 0, none⟩) l.length cap) l.length (flE l)) (hi : i < l.length) (hj : j = i + 1) (hl : l.length ≤ 1000000) :
    Calls Try.prog 77 #[.slice (some ⟨g, 0, none⟩) l.length cap, .int .i64 (i : Int), .int .i64 (j : Int)] w fun e w' =>
      ∃ v', e = .returned v' ∧ w'.ownsRow base 42 19 v' (outE l i).length (flE (outE l i)) ∧ w.grownBy w' (some g) ∧ v' = .slice (some ⟨g, 0, none⟩) (outE l i).length cap := by
  have hbg := own_base hrow g rfl
  obtain ⟨i0, hi0, hz0, hz1, hz2⟩ := info_parts info_En
  rcases hrow.2 with ⟨h', _⟩ | ⟨g', cap', cur, h', _, hh, hn, hm, hs, ht⟩
  · cases h'
  obtain ⟨rfl, rfl⟩ : g = g' ∧ cap = cap' := by
    injection h' with h1 h2 h3
    injection h1 with h1
    injection h1 with h1
    exact ⟨h1, h3⟩
  have hcl : cur.toList.length = cap * 19 := by rw [Array.length_toList, hs]
  have hm63 : cap ≤ 9223372036854775807 := hm
  obtain ⟨n, hnl⟩ : ∃ n, l.length = n := ⟨_, rfl⟩
  rw [hnl] at hi hl hn ht
  have hld : (flE (l.drop j)).length = (n - j) * 19 := by rw [flE_len (fun e he => hl0 e (List.mem_of_mem_drop he)), List.length_drop, hnl]
  have hlt : (flE (l.take i)).length = i * 19 := by rw [flE_len (fun e he => hl0 e (List.mem_of_mem_take he)), List.length_take, hnl, Nat.min_eq_left (Nat.le_of_lt hi)]
  obtain ⟨A, hA, hsrc⟩ : ∃ A : Addr, (if cap = j then some (⟨g, 0, none⟩ : Addr) else some ⟨g, j * 19, none⟩) = some A ∧ ∀ t u, (flE (l.drop j))[t]? = some u → w.drew.cell? (A.add t) = some u := by
    by_cases h : cap = j
    · refine ⟨⟨g, 0, none⟩, by simp [h], fun t u hu => ?_⟩
      have h0 : (flE (l.drop j)).length = 0 := by rw [hld]; omega
      rw [List.length_eq_zero_iff.1 h0] at hu
      simp at hu
    · refine ⟨⟨g, j * 19, none⟩, by simp [h], fun t u hu => ?_⟩
      rw [Addr.add_lit]
      have hj2 : (flE l)[j * 19 + t]? = some u := by rw [flE_drop hl0 j (by omega)] at hu; rwa [List.getElem?_drop] at hu
      have := hrow.cells (g := g) rfl (j * 19 + t) u hj2
      rwa [add_plain] at this
  obtain ⟨cur1, hc1⟩ : ∃ cur1 : Array Value, (cur.toList.take (i * 19) ++ flE (l.drop j) ++ cur.toList.drop (i * 19 + (flE (l.drop j)).length)).toArray = cur1 := ⟨_, rfl⟩
  have hap : ∀ ty c, (Builtin.append_ #[50, 50] ty #[.slice (some ⟨g, 0, none⟩) i cap, .slice (some A) (n - j) c]).run Try.prog w.drew = .ok (.slice (some ⟨g, 0, none⟩) (i + (n - j)) cap) (w.drew.setRow g cur1) := fun ty c => by
    have := run_append_room (P := Try.prog) w.drew 50 ty 42 i0 Try.underlying50 hi0 g i cap cur hh A (n - j) c (flE (l.drop j)) (by rw [hz1]; exact hld) hsrc (flE_one _) (by omega) (by rw [hz1, hld, hs]; omega)
    rw [hz1, hc1] at this
    exact this
  have hs1 : cur1.size = cap * 19 := by
    rw [← hc1]
    simp only [List.size_toArray, List.length_append, List.length_take, List.length_drop, hld, hcl]
    omega
  obtain ⟨W1, hW1⟩ : ∃ W1, w.drew.setRow g cur1 = W1 := ⟨_, rfl⟩
  rw [hW1] at hap
  have hh1 : W1.heap[g]? = some (.cells cur1 42 (0, 0)) := by rw [← hW1]; exact setRow_heap w.drew g cur _ _ _ hh
  obtain ⟨cur2, hc2⟩ : ∃ cur2 : Array Value, (cur1.toList.take ((i + (n - j)) * 19) ++ lE noE ++ cur1.toList.drop ((i + (n - j)) * 19 + 19)).toArray = cur2 := ⟨_, rfl⟩
  have hcr : ∀ ty, (Builtin.clear_ #[50] ty #[.slice (some ⟨g, (i + (n - j)) * 19, none⟩) (n - (i + (n - j))) (cap - (i + (n - j)))]).run Try.prog W1 = .ok (.tuple #[]) (W1.setRow g cur2) := fun ty => by
    have := run_clear_en W1 ty g ((i + (n - j)) * 19) (cap - (i + (n - j))) cur1 42 hh1 (by rw [hs1]; omega)
    rw [hc2] at this
    rw [show n - (i + (n - j)) = 1 by omega]
    exact this
  have hs2 : cur2.size = cap * 19 := by
    rw [← hc2]
    simp only [List.size_toArray, List.length_append, List.length_take, List.length_drop, Array.length_toList, hs1, lE_len ok_noE]
    omega
  have hol : (outE l i).length = i + (n - j) := by have := outE_length l i (by omega); omega
  have hfo : (flE (outE l i)).length = (i + (n - j)) * 19 := by rw [flE_len (ok_outE hl0 i), hol]
  have ht2 : cur2.toList.take ((i + (n - j)) * 19) = flE (outE l i) := by
    have e1 : cur1.toList = (flE (l.take i) ++ flE (l.drop j)) ++ cur.toList.drop (i * 19 + (flE (l.drop j)).length) := by
      rw [← hc1]
      have : cur.toList.take (i * 19) = flE (l.take i) := by
        rw [flE_take hl0 i (by omega), ← ht, List.take_take, Nat.min_eq_left (by omega)]
      rw [this]
    have e2 : flE (l.take i) ++ flE (l.drop j) = flE (outE l i) := by unfold outE; rw [flE_append, hj]
    rw [e2] at e1
    have e3 : cur1.toList.take ((i + (n - j)) * 19) = flE (outE l i) := by rw [e1, ← hfo, List.take_left]
    rw [← hc2, e3]
    show List.take _ (flE (outE l i) ++ lE noE ++ _) = _
    rw [List.append_assoc, ← hfo, List.take_left]
  have HF := Aside0.mk (show (outE l i).length = i + (n - j) ∧ (flE (outE l i)).length = (i + (n - j)) * 19 ∧ i + (n - j) ≤ cap ∧ cur2.size = cap * 19 ∧ cur2.toList.take ((i + (n - j)) * 19) = flE (outE l i) from ⟨hol, hfo, by omega, hs2, ht2⟩)
  have HW1 := Aside0.mk hW1
  have HH1 := Aside0.mk hh1
  have HM := Aside0.mk hm
  have hne : ¬ ((i : Int) = (j : Int)) := by omega
  have hic : i ≤ cap := by omega
  have hjc : j ≤ cap := by omega
  have hin : i ≤ n := by omega
  have hjn : j ≤ n := by omega
  have hij : i ≤ j := by omega
  have hil : i + (n - j) ≤ n := by omega
  have hio : i + (n - j) ≤ cap := by omega
  have hnc : n ≤ cap := hn
  have hb5 : ¬ (cap = i + (n - j)) := by omega
  have mixed : Try.prog.follows Departure.mixedOrders = true := by kernel_rfl
  rw [hnl]
  clear hrow hh hs ht hcl hl0 hld hlt hsrc hc1 hc2 hs1 hs2 hW1 hh1 hm hol hfo ht2 hl hi hj hnl h'
  go_enter Try.func77, Try.ntmps77
  go_wp2_with fail
  go_region_law_o (refine step_append_runA rfl (.tmp 22) (.tmp 25) 50 50 rfl _ _ (by simp [Act.eval, Act.put]) (by simp [Act.eval, Act.put, hA]) (hap _ (cap - j)) ?_)
  go_wp2
  go_ret
  rw [HF.out.1]
  refine ⟨_, rfl, ⟨HF.out.2.1, .inr ⟨g, cap, cur2, rfl, hbg, setRow_heap W1 g cur1 _ _ _ HH1.out, HF.out.2.2.1, HM.out, HF.out.2.2.2.1, HF.out.2.2.2.2⟩⟩, ?_, rfl⟩
  rw [← HW1.out]
  exact ⟨rfl, rfl, rfl, by rw [size_setRowE, size_setRowE]; exact Nat.le_refl _, fun k _ hne => (setRow_other _ g k _ (by intro e; subst e; exact hne rfl)).trans (setRow_other w.drew g k _ (by intro e; subst e; exact hne rfl))⟩
end Go.Proofs.Ythjhbhgfckaklaa.P
end
section
namespace Go.Proofs.Ythjhbhgfckaklaa.P
open Go.RowKit Go.Proofs.YthjhbhgfckaklaaW.PrintWords Go.Proofs.YthjhbhgfckaklaaW.PrintLast Go.Proofs.YthjhbhgfckaklaaW.PrintMore
set_option linter.unusedVariables false
set_option linter.unusedSimpArgs false
set_option maxHeartbeats 8000000 in
set_option maxRecDepth 100000 in
theorem table_Drop_no (T base : Nat) (st : Int) (sv : Value) (l : List En) (p : Pf) (hp : p.a.ok) (w : World) (ht : Tb w T base st sv l) (hs : Sorted l) (hn : l.length ≤ 1000) (hh : hasE l p = false) :
    Calls Try.prog 57 #[.pointer (some ⟨T, 0, none⟩), .agg (eP p)] w fun r w' => r = .returned (.int .i64 4) ∧ Below w.heap.size w w' := by
  have HB := Aside0.mk (Below.refl w.heap.size w)
  have HP := Aside0.mk hp
  have HT := Aside0.mk ht
  have HS := Aside0.mk hs
  have HN := Aside0.mk hn
  have HH := Aside0.mk hh
  clear hp ht hs hn hh
  go_enter Try.func57, Try.ntmps57
  go_wp2_with (first
    | ((with_reducible refine gate_dst (N := 3) rfl ?_); refine box_event ?hg (N := 3) ?hd (cs := eP p) (t := 39) ?hr ?_; (case hd => rfl); (case hg => rfl); (case hr => first | (go_simp; done) | (go_simp; rfl)); intro g4 hg w1 hbox hb; have HX := Aside0.mk hbox; replace HT := Aside0.mk (tb_below HT.out (below_step (bel_later (Below.refl _ _)) hb)); replace HB := Aside0.mk (below_step (bel_later HB.out) hb); clear hb hg hbox)
    | ((with_reducible refine gate_dst (N := 9) rfl ?_); refine wpList_load_row rfl 39 (.tmp 3) rfl g4 rfl 39 (eP p) (0, 0) _ HX.out Try.underlying39 rfl (infoEP HP.out) ?_)
    | (go_at_call 49; refine (tab_at T base st _ l p HP.out _ HT.out HS.out (by have := HN.out; omega)).mono ?_; rintro r w3 ⟨rfl, hb⟩; rw [HH.out]; replace HT := Aside0.mk (tb_below HT.out hb); replace HB := Aside0.mk (below_step HB.out hb); clear hb))
  go_ret
  exact ⟨rfl, HB.out⟩
set_option maxHeartbeats 8000000 in
set_option maxRecDepth 100000 in
theorem table_Drop_yes (T base : Nat) (st : Int) (sv : Value) (l : List En) (p : Pf) (hp : p.a.ok) (w : World) (ht : Tb w T base st sv l) (hs : Sorted l) (hn : l.length ≤ 1000) (hh : hasE l p = true) :
    Calls Try.prog 57 #[.pointer (some ⟨T, 0, none⟩), .agg (eP p)] w fun r w' => r = .returned (.int .i64 0) ∧ (∃ sv', Tb w' T base st sv' (dropE l p)) ∧ Chg T base w w' := by
  have HB := Aside0.mk (Below.refl w.heap.size w)
  have HP := Aside0.mk hp
  have HT := Aside0.mk ht
  have HS := Aside0.mk hs
  have HN := Aside0.mk hn
  have HH := Aside0.mk hh
  clear hp ht hs hn hh
  have HFO0 := Aside0.mk (found_pure HT.out.ok HS.out HP.out)
  obtain ⟨i, hi⟩ : ∃ i, idxE l p = i := ⟨_, rfl⟩
  have HI := Aside0.mk hi
  have HFO := Aside0.mk (by have := HFO0.out; rw [HH.out, hi] at this; exact this)
  obtain ⟨x, hx, _, _, _, hdr, _, _⟩ := found_yes HT.out.ok HS.out HP.out HFO.out
  have HIL := Aside0.mk (List.getElem?_eq_some_iff.1 hx).1
  have HDR := Aside0.mk (show dropE l p = outE l i from hdr)
  obtain ⟨m, hm1⟩ : ∃ m, l.length = m + 1 := ⟨l.length - 1, by have := HIL.out; omega⟩
  have hrow0 := HT.out.row
  rw [hm1] at hrow0
  obtain ⟨g, cap, cur0, hsv, hbg, hgg0⟩ := own_some hrow0
  rw [← hm1] at hsv
  subst hsv
  have HBG := Aside0.mk hbg
  have e1 : wrap64 ((i : Int) + 1) = (i : Int) + 1 := wrapE1 i (by have := HIL.out; have := HN.out; omega)
  clear hx hrow0 hgg0 hbg hi hm1 hdr
  go_enter Try.func57, Try.ntmps57
  go_wp2_with (first
    | ((with_reducible refine gate_dst (N := 3) rfl ?_); refine box_event ?hg (N := 3) ?hd (cs := eP p) (t := 39) ?hr ?_; (case hd => rfl); (case hg => rfl); (case hr => first | (go_simp; done) | (go_simp; rfl)); intro g4 hg w1 hbox hb; have HX := Aside0.mk hbox; replace HT := Aside0.mk (tb_below HT.out (below_step (bel_later (Below.refl _ _)) hb)); replace HB := Aside0.mk (below_step (bel_later HB.out) hb); clear hb hg hbox)
    | ((with_reducible refine gate_dst (N := 9) rfl ?_); refine wpList_load_row rfl 39 (.tmp 3) rfl g4 rfl 39 (eP p) (0, 0) _ HX.out Try.underlying39 rfl (infoEP HP.out) ?_)
    | (go_at_call 49; refine (tab_at T base st _ l p HP.out _ HT.out HS.out (by have := HN.out; omega)).mono ?_; rintro r w3 ⟨rfl, hb⟩; rw [HH.out, HI.out]; replace HT := Aside0.mk (tb_below HT.out hb); replace HB := Aside0.mk (below_step HB.out hb); have h0 : w3.cell? ⟨T, 0, none⟩ = some (.slice (some ⟨g, 0, none⟩) l.length cap) := blk_cell HT.out.blk 0; clear hb)
    | (go_at_call 77; refine (del_one base g cap i (i + 1) l HT.out.ok w3 HT.out.row HIL.out rfl (by have := HN.out; omega)).mono ?_; rintro r w6 ⟨v', rfl, hrow, hgr, rfl⟩; have HRW := Aside0.mk hrow; have HC6 := Aside0.mk (chg_grown (T := T) HT.out.row hgr); have HTB := Aside0.mk ((hgr.block T (Array.getElem?_eq_some_iff.1 HT.out.blk).1 (own_ne HT.out.row HT.out.blk (.inr (fun cs fr e => by cases e)))).trans HT.out.blk); have hx : w6.cell? ⟨T, 0, none⟩ = some (.slice (some ⟨g, 0, none⟩) l.length cap) := blk_cell HTB.out 0; have hfz : w6.frozen? ⟨T, 0, none⟩ = false := blk_frozen HTB.out 0; clear hrow hgr))
  clear hx hfz
  have HGT := Aside0.mk (show T ≠ g by
    intro e
    subst e
    obtain ⟨cur, h2⟩ := row_blk HRW.out
    rw [HTB.out] at h2
    cases h2)
  go_ret
  refine ⟨rfl, ⟨.slice (some ⟨g, 0, none⟩) (outE l i).length cap, blk_put HTB.out 0 _ rfl, ?_, ok_dropE HT.out.ok p⟩, chg_trans (chg_trans (chg_below HB.out) HC6.out) chg_tab⟩
  rw [HDR.out]
  exact own_far HRW.out (fun e => HGT.out (Option.some.inj e).symm)
/-- A prefix is taken out, if it is there. -/
theorem table_Drop (T base : Nat) (st : Int) (sv : Value) (l : List En) (p : Pf) (hp : p.a.ok) (w : World) (ht : Tb w T base st sv l) (hs : Sorted l) (hn : l.length ≤ 1000) :
    Calls Try.prog 57 #[.pointer (some ⟨T, 0, none⟩), .agg (eP p)] w fun r w' => r = .returned (.int .i64 (if hasE l p = true then 0 else 4)) ∧ (∃ sv', Tb w' T base st sv' (dropE l p)) ∧ Chg T base w w' := by
  cases hh : hasE l p
  · refine (table_Drop_no T base st sv l p hp w ht hs hn hh).mono ?_
    rintro r w' ⟨rfl, hb⟩
    have := found_no ht.ok hs hp (by have := found_pure ht.ok hs hp; rw [hh] at this; exact this)
    rw [this.2.2.1]
    exact ⟨rfl, ⟨sv, tb_below ht hb⟩, chg_below hb⟩
  · exact (table_Drop_yes T base st sv l p hp w ht hs hn hh).mono (fun r w' h => h)
end Go.Proofs.Ythjhbhgfckaklaa.P
end
section
namespace Go.Proofs.Ythjhbhgfckaklaa.P
open Go.RowKit Go.Proofs.YthjhbhgfckaklaaW.PrintWords Go.Proofs.YthjhbhgfckaklaaW.PrintLast Go.Proofs.YthjhbhgfckaklaaW.PrintMore
set_option linter.unusedVariables false
set_option linter.unusedSimpArgs false
theorem find_none_upto {l : List En} {p : Pf} (h : ∀ (j : Nat) (x : En), j < l.length → l[j]? = some x → x.p ≠ p) : getE l p = none ∧ hasE l p = false := by
  have hn : ∀ e ∈ l, ¬ e.p = p := fun e he => by
    obtain ⟨j, hj⟩ := List.mem_iff_getElem?.1 he
    exact h j e (List.getElem?_eq_some_iff.1 hj).1 hj
  constructor
  · unfold getE
    rw [List.find?_eq_none]
    intro e he
    simpa using hn e he
  · unfold hasE
    rw [Bool.eq_false_iff]
    intro h1
    obtain ⟨e, he, h2⟩ := List.any_eq_true.1 h1
    exact hn e he (of_decide_eq_true h2)
theorem find_first {l : List En} {p : Pf} {i : Nat} {x : En} (h : ∀ (j : Nat) (x : En), j < i → l[j]? = some x → x.p ≠ p) (hx : l[i]? = some x) (hp : x.p = p) : getE l p = some x ∧ hasE l p = true := by
  obtain ⟨hi, hie⟩ := List.getElem?_eq_some_iff.1 hx
  constructor
  · have hsp : l = l.take i ++ x :: l.drop (i + 1) := by
      conv => lhs; rw [← List.take_append_drop i l, List.drop_eq_getElem_cons hi, hie]
    conv => lhs; rw [hsp]
    unfold getE
    rw [List.find?_append, List.find?_eq_none.2 (fun e he => by
      obtain ⟨j, hj, rfl⟩ := List.getElem_of_mem he
      rw [List.getElem_take]
      rw [List.length_take] at hj
      simpa using h j _ (by omega) (List.getElem?_eq_getElem (by omega)))]
    simp [hp]
  · unfold hasE
    rw [List.any_eq_true]
    exact ⟨x, List.mem_of_getElem? hx, decide_eq_true hp⟩
set_option maxHeartbeats 8000000 in
set_option maxRecDepth 100000 in
theorem ref06_Get (A : Option Addr) (n cap G : Nat) (l : List En) (hl : okE l) (p : Pf) (hp : p.a.ok) (w : World) (hrd : Rd w 51 A n cap G l) (hn : n ≤ 1000000) :
    Calls Try.prog 59 #[.slice A n cap, .agg (eP p)] w fun r w' => r = .returned (.tuple #[.int .i64 (valE l p), .bool (hasE l p)]) ∧ Below w.heap.size w w' := by
  have HB := Aside0.mk (Below.refl w.heap.size w)
  have HP := Aside0.mk hp
  have HL := Aside0.mk hl
  have HRD := Aside0.mk hrd
  have HN := Aside0.mk hn
  clear hp hl hrd hn
  go_enter Try.func59, Try.ntmps59
  go_wp2_with (first
    | ((with_reducible refine gate_dst (N := 3) rfl ?_); refine box_event ?hg (N := 3) ?hd (cs := eP p) (t := 39) ?hr ?_; (case hd => rfl); (case hg => rfl); (case hr => first | (go_simp; done) | (go_simp; rfl)); intro g3 hg w1 hbox hb; have HX := Aside0.mk hbox; replace HB := Aside0.mk (below_step (bel_later HB.out) hb); clear hb hg hbox))
  go_loopw [6] (fun v6 wr => ∃ i : Nat, v6 = .int .i64 (i : Int) ∧ Aside0 (i ≤ n) ∧ Aside0 (∀ (j : Nat) (x : En), j < i → l[j]? = some x → x.p ≠ p) ∧ Aside0 (wr.heap[g3]? = some (.cells (eP p) 39 (0, 0)) ∧ Below w.heap.size w wr)) (fun v6 _ => n - (intOf v6).toNat)
  case atStart => exact ⟨0, rfl, ⟨Nat.zero_le _⟩, ⟨fun j x h => absurd h (Nat.not_lt_zero _)⟩, ⟨HX.out, HB.out⟩⟩
  case round =>
    obtain ⟨i, rfl, HI, HJ, HE⟩ := hrel
    clear HX HB
    have HX := Aside0.mk HE.out.1
    have HB := Aside0.mk HE.out.2
    clear HE
    by_cases hlt : i < n
    · have c0 : decide ((i : Int) < (n : Int)) = true := decide_eq_true (by omega)
      have c1 : decide (i < n) = true := decide_eq_true hlt
      obtain ⟨e, he⟩ : ∃ e, l[i]? = some e := ⟨l[i]'(by have := HRD.out.len; omega), List.getElem?_eq_getElem _⟩
      have HEE := Aside0.mk he
      have HOE := Aside0.mk (HL.out e (List.mem_of_getElem? he))
      have hidx := fun w => HRD.out.idx w i hlt
      have HLT := Aside0.mk hlt
      have e4 : wrap64 ((i : Int) + 1) = ((i + 1 : Nat) : Int) := wrap_sm1 i (by have := HN.out; omega)
      have HE4 := Aside0.mk e4
      have HR := Aside0.mk ((rd_below HRD.out HB.out).at_ i e he)
      clear hlt he
      by_cases hd : e.p = p
      · have HRUN := Aside0.mk (fun w : World => (eq_pf 9996 e.p p HOE.out HP.out w).trans (by rw [decide_eq_true hd]) : ∀ w : World, (Op.equalIn 10000 39 (.agg (eP e.p)) (.agg (eP p))).run Try.prog w = .ok true w)
        have HF := Aside0.mk (find_first HJ.out HEE.out hd)
        have HV := Aside0.mk (show valE l p = e.v by unfold valE; rw [HF.out.1]; rfl)
        clear hd
        go_wp2
        obtain ⟨S, hS⟩ : ∃ S : World → Prop, S = fun w' => w'.heap[g3]? = some (.cells (eP p) 39 (0, 0)) ∧ w'.rangeAt G (i * 19) (lE e) := ⟨_, rfl⟩
        have HSx := Aside0.mk (show ∀ x : World, S x → x.heap[g3]? = some (.cells (eP p) 39 (0, 0)) ∧ x.rangeAt G (i * 19) (lE e) by intro b h; rw [hS] at h; exact h)
        have s0 : S wr.drew := by rw [hS]; exact ⟨blk_later HX.out, range_below HR.out (bel_later (Below.refl _ _))⟩
        clear hS
        refine wp_region_held_drew (S := S) (by kernel_rfl) s0 (fun _ => ?_)
        refine anyH_at (R := fun x => S x ∧ Below wr.heap.size wr x) ⟨s0, bel_later (Below.refl _ _)⟩ (fun w5 h5 => ?_)
        clear s0
        have s0 := h5.1
        have HD5 := Aside0.mk h5.2
        clear h5
        refine wpAnyH_take (i := 0) (v := .slice A n cap) rfl (by kernel_rfl) (by kernel_rfl) (by kernel_rfl) (fun _ _ _ h => h) (Or.inl ⟨by kernel_rfl, fun w' h => by first | (go_simp; done) | (go_simp; rfl)⟩) s0 ?_
        (try simp only [Act.put, List.getElem_toArray, List.getElem_cons_succ, List.getElem_cons_zero, List.setIfInBounds_toArray, List.set_cons_zero, List.set_cons_succ])
        refine wpAnyH_take (i := 1) (v := .int .i64 (i : Int)) rfl (by kernel_rfl) (by kernel_rfl) (by kernel_rfl) (fun _ _ _ h => h) (Or.inl ⟨by kernel_rfl, fun w' h => by first | (go_simp; done) | (go_simp; rfl)⟩) s0 ?_
        (try simp only [Act.put, List.getElem_toArray, List.getElem_cons_succ, List.getElem_cons_zero, List.setIfInBounds_toArray, List.set_cons_zero, List.set_cons_succ])
        refine wpAnyH_take (i := 2) (v := .pointer (some ⟨G, i * 19, none⟩)) rfl (by kernel_rfl) (by kernel_rfl) (by kernel_rfl) (fun _ _ _ h => h) (Or.inl ⟨by kernel_rfl, fun w' h => by have hf := hidx w'; first | (go_simp; done) | (go_simp; rfl)⟩) s0 ?_
        (try simp only [Act.put, List.getElem_toArray, List.getElem_cons_succ, List.getElem_cons_zero, List.setIfInBounds_toArray, List.set_cons_zero, List.set_cons_succ])
        refine wpAnyH_take (i := 3) (v := .pointer (some ⟨G, i * 19, none⟩)) rfl (by kernel_rfl) (by kernel_rfl) (by kernel_rfl) (fun _ _ _ h => h) (Or.inl ⟨by kernel_rfl, fun w' h => by first | (go_simp; done) | (go_simp; rfl)⟩) s0 ?_
        (try simp only [Act.put, List.getElem_toArray, List.getElem_cons_succ, List.getElem_cons_zero, List.setIfInBounds_toArray, List.set_cons_zero, List.set_cons_succ])
        refine wpAnyH_take (i := 4) (v := .agg (lP e.p).toArray) rfl ?ma4b ?ma4c ?ma4d (fun _ _ _ h => h) ?ma4e s0 ?ma4f
        case ma4b => kernel_rfl
        case ma4c => kernel_rfl
        case ma4d => kernel_rfl
        case ma4e =>
          refine yieldsIf_load_mid ?ma4g 39 (.tmp 16) ?ma4h G (i * 19) ?ma4i (lP e.p) _ ?ma4j Try.underlying39 ?ma4k (infoEP HOE.out)
          case ma4g => kernel_rfl
          case ma4h => kernel_rfl
          case ma4i => kernel_rfl
          case ma4k => kernel_rfl
          case ma4j => exact fun w' h => part_pf (HSx.out w' h).2
        (try simp only [Act.put, List.getElem_toArray, List.getElem_cons_succ, List.getElem_cons_zero, List.setIfInBounds_toArray, List.set_cons_zero, List.set_cons_succ])
        refine wpAnyH_take (i := 5) (v := .agg (eP p)) rfl ?qa5b ?qa5c ?qa5d (fun _ _ _ h => h) ?qa5e s0 ?qa5f
        case qa5b => kernel_rfl
        case qa5c => kernel_rfl
        case qa5d => kernel_rfl
        case qa5e => exact yields_row (by kernel_rfl) 39 (.tmp 3) rfl g3 rfl 39 (eP p) (0, 0) _ (fun w' h => (HSx.out w' h).1) Try.underlying39 rfl (infoEP HP.out)
        (try simp only [Act.put, List.getElem_toArray, List.getElem_cons_succ, List.getElem_cons_zero, List.setIfInBounds_toArray, List.set_cons_zero, List.set_cons_succ])
        refine wpAnyH_take (i := 6) (v := .bool true) rfl (by kernel_rfl) (by kernel_rfl) (by kernel_rfl) (fun _ _ _ h => h) (Or.inl ⟨by kernel_rfl, fun w' h => run_eql_op (r := true) rfl rfl rfl (by kernel_rfl) (HRUN.out w')⟩) s0 ?_
        (try simp only [Act.put, List.getElem_toArray, List.getElem_cons_succ, List.getElem_cons_zero, List.setIfInBounds_toArray, List.set_cons_zero, List.set_cons_succ])
        refine wpAnyH_done (by kernel_rfl) ?_ _
        have HX5 := Aside0.mk (HSx.out _ s0).1
        have HR5 := Aside0.mk (HSx.out _ s0).2
        have HB5 := Aside0.mk (below_step HB.out HD5.out)
        clear s0
        have hv := part_v HOE.out HR5.out
        go_wp2
        go_ret2
        exact ⟨by rw [HV.out, HF.out.2]; rfl, HB5.out⟩
      · have HRUN := Aside0.mk (fun w : World => (eq_pf 9996 e.p p HOE.out HP.out w).trans (by rw [decide_eq_false hd]) : ∀ w : World, (Op.equalIn 10000 39 (.agg (eP e.p)) (.agg (eP p))).run Try.prog w = .ok false w)
        have HJ2 := Aside0.mk (show ∀ (j : Nat) (x : En), j < i + 1 → l[j]? = some x → x.p ≠ p by
          intro j x hj hx
          by_cases hji : j < i
          · exact HJ.out j x hji hx
          · rw [show j = i by omega, HEE.out] at hx
            cases hx
            exact hd)
        clear hd
        go_wp2
        obtain ⟨S, hS⟩ : ∃ S : World → Prop, S = fun w' => w'.heap[g3]? = some (.cells (eP p) 39 (0, 0)) ∧ w'.rangeAt G (i * 19) (lE e) := ⟨_, rfl⟩
        have HSx := Aside0.mk (show ∀ x : World, S x → x.heap[g3]? = some (.cells (eP p) 39 (0, 0)) ∧ x.rangeAt G (i * 19) (lE e) by intro b h; rw [hS] at h; exact h)
        have s0 : S wr.drew := by rw [hS]; exact ⟨blk_later HX.out, range_below HR.out (bel_later (Below.refl _ _))⟩
        clear hS
        refine wp_region_held_drew (S := S) (by kernel_rfl) s0 (fun _ => ?_)
        refine anyH_at (R := fun x => S x ∧ Below wr.heap.size wr x) ⟨s0, bel_later (Below.refl _ _)⟩ (fun w5 h5 => ?_)
        clear s0
        have s0 := h5.1
        have HD5 := Aside0.mk h5.2
        clear h5
        refine wpAnyH_take (i := 0) (v := .slice A n cap) rfl (by kernel_rfl) (by kernel_rfl) (by kernel_rfl) (fun _ _ _ h => h) (Or.inl ⟨by kernel_rfl, fun w' h => by first | (go_simp; done) | (go_simp; rfl)⟩) s0 ?_
        (try simp only [Act.put, List.getElem_toArray, List.getElem_cons_succ, List.getElem_cons_zero, List.setIfInBounds_toArray, List.set_cons_zero, List.set_cons_succ])
        refine wpAnyH_take (i := 1) (v := .int .i64 (i : Int)) rfl (by kernel_rfl) (by kernel_rfl) (by kernel_rfl) (fun _ _ _ h => h) (Or.inl ⟨by kernel_rfl, fun w' h => by first | (go_simp; done) | (go_simp; rfl)⟩) s0 ?_
        (try simp only [Act.put, List.getElem_toArray, List.getElem_cons_succ, List.getElem_cons_zero, List.setIfInBounds_toArray, List.set_cons_zero, List.set_cons_succ])
        refine wpAnyH_take (i := 2) (v := .pointer (some ⟨G, i * 19, none⟩)) rfl (by kernel_rfl) (by kernel_rfl) (by kernel_rfl) (fun _ _ _ h => h) (Or.inl ⟨by kernel_rfl, fun w' h => by have hf := hidx w'; first | (go_simp; done) | (go_simp; rfl)⟩) s0 ?_
        (try simp only [Act.put, List.getElem_toArray, List.getElem_cons_succ, List.getElem_cons_zero, List.setIfInBounds_toArray, List.set_cons_zero, List.set_cons_succ])
        refine wpAnyH_take (i := 3) (v := .pointer (some ⟨G, i * 19, none⟩)) rfl (by kernel_rfl) (by kernel_rfl) (by kernel_rfl) (fun _ _ _ h => h) (Or.inl ⟨by kernel_rfl, fun w' h => by first | (go_simp; done) | (go_simp; rfl)⟩) s0 ?_
        (try simp only [Act.put, List.getElem_toArray, List.getElem_cons_succ, List.getElem_cons_zero, List.setIfInBounds_toArray, List.set_cons_zero, List.set_cons_succ])
        refine wpAnyH_take (i := 4) (v := .agg (lP e.p).toArray) rfl ?mb4b ?mb4c ?mb4d (fun _ _ _ h => h) ?mb4e s0 ?mb4f
        case mb4b => kernel_rfl
        case mb4c => kernel_rfl
        case mb4d => kernel_rfl
        case mb4e =>
          refine yieldsIf_load_mid ?mb4g 39 (.tmp 16) ?mb4h G (i * 19) ?mb4i (lP e.p) _ ?mb4j Try.underlying39 ?mb4k (infoEP HOE.out)
          case mb4g => kernel_rfl
          case mb4h => kernel_rfl
          case mb4i => kernel_rfl
          case mb4k => kernel_rfl
          case mb4j => exact fun w' h => part_pf (HSx.out w' h).2
        (try simp only [Act.put, List.getElem_toArray, List.getElem_cons_succ, List.getElem_cons_zero, List.setIfInBounds_toArray, List.set_cons_zero, List.set_cons_succ])
        refine wpAnyH_take (i := 5) (v := .agg (eP p)) rfl ?qb5b ?qb5c ?qb5d (fun _ _ _ h => h) ?qb5e s0 ?qb5f
        case qb5b => kernel_rfl
        case qb5c => kernel_rfl
        case qb5d => kernel_rfl
        case qb5e => exact yields_row (by kernel_rfl) 39 (.tmp 3) rfl g3 rfl 39 (eP p) (0, 0) _ (fun w' h => (HSx.out w' h).1) Try.underlying39 rfl (infoEP HP.out)
        (try simp only [Act.put, List.getElem_toArray, List.getElem_cons_succ, List.getElem_cons_zero, List.setIfInBounds_toArray, List.set_cons_zero, List.set_cons_succ])
        refine wpAnyH_take (i := 6) (v := .bool false) rfl (by kernel_rfl) (by kernel_rfl) (by kernel_rfl) (fun _ _ _ h => h) (Or.inl ⟨by kernel_rfl, fun w' h => run_eql_op (r := false) rfl rfl rfl (by kernel_rfl) (HRUN.out w')⟩) s0 ?_
        (try simp only [Act.put, List.getElem_toArray, List.getElem_cons_succ, List.getElem_cons_zero, List.setIfInBounds_toArray, List.set_cons_zero, List.set_cons_succ])
        refine wpAnyH_done (by kernel_rfl) ?_ _
        have HX5 := Aside0.mk (HSx.out _ s0).1
        have HR5 := Aside0.mk (HSx.out _ s0).2
        have HB5 := Aside0.mk (below_step HB.out HD5.out)
        clear s0
        go_wp2
        go_roundw
        case rel => exact ⟨i + 1, (by first | rfl | exact congrArg (Value.int .i64) HE4.out), ⟨HLT.out⟩, HJ2, ⟨HX5.out, HB5.out⟩⟩
        case measure => exact measureA n i _ (by first | rfl | exact HE4.out) HLT.out
    · have c0 : decide ((i : Int) < (n : Int)) = false := decide_eq_false (by omega)
      have c1 : decide (i < n) = false := decide_eq_false hlt
      have HF := Aside0.mk (find_none_upto (l := l) (p := p) (fun j x hj hx => HJ.out j x (by have := HRD.out.len; omega) hx))
      have HV := Aside0.mk (show valE l p = 0 by unfold valE; rw [HF.out.1]; rfl)
      clear hlt
      go_wp2
      go_ret2
      exact ⟨by rw [HV.out, HF.out.2]; rfl, HB.out⟩
end Go.Proofs.Ythjhbhgfckaklaa.P
end
