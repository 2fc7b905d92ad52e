/-
  slices.Insert of one entry into a row of the call's own.
-/
import Derived.Lib.Overlaps
import Derived.Laws.Externs
import Derived.Shelf.RegionOpenPlain
import Derived.Test.YthjhbhgfckaklaaArrV
namespace Go.Proofs.Ythjhbhgfckaklaa.P
open Go.RowKit Go.Shelf Go.Proofs.YthjhbhgfckaklaaW.PrintWords Go.Proofs.YthjhbhgfckaklaaW.PrintLast Go.Proofs.YthjhbhgfckaklaaW.PrintMore
set_option linter.unusedVariables false
set_option linter.unusedSimpArgs false
section
variable {P : Program}
/-- 'copy' over elements of so many cells, into a row that is known whole. -/
theorem run_copy_wide (w : World) (dT sT ty elem : TypeId) (N g o dLen dCap : Nat) (a : Addr) (sLen sCap : Nat) (cur : Array Value) (t : TypeId) (cs : List Value)
    (hu : P.underlying dT = some (.slice elem)) (hs : (P.info? elem).map (·.size) = some N)
    (hg : w.heap[g]? = some (.cells cur t (0, 0))) (hn : cs.length = Nat.min sLen dLen * N)
    (hsrc : ∀ j v, cs[j]? = some v → w.cell? (a.add j) = some v) (hfit : o + cs.length ≤ cur.size) (h1 : ∀ v ∈ cs, v.oneCell' = true) :
    (Builtin.copy_ #[dT, sT] ty #[.slice (some ⟨g, o, none⟩) dLen dCap, .slice (some a) sLen sCap]).run P w =
      .ok (goInt (Nat.min sLen dLen)) (w.setRow g (cur.toList.take o ++ cs ++ cur.toList.drop (o + cs.length)).toArray) := by
  have hl := run_loadCells_list (P := P) w a cs hsrc
  have hst := run_storeCells_at P g o t cs 0 cur w hg (by simpa using hfit) h1
  cases hq : P.info? elem with
  | none => simp [hq] at hs
  | some i =>
    have hi : i.size = N := by simpa [hq] using hs
    simp [Builtin.copy_, run_underlying hu, Builtin.lenOf, Builtin.firstCells, sizeOf, typeInfo, hq, hi, ← hn, hl, hst]
theorem wpList_copy_runA (w : World) {ops : Array Oper} {rest : List Oper} {o : Oper} {a : Act} {Q : Exit → Act → World → Prop} (hgd : o.guard = none) (d s : Operand) (t t' : TypeId)
    (ho : o.op = .call { callee := .builtin .copy, args := #[d, s], argTypes := #[t, t'] }) (v u : Value) (hd : a.eval d = v) (hs : a.eval s = u) {v' : Value} {w' : World}
    (hr : (Builtin.copy_ #[t, t'] o.type #[v, u]).run P w = .ok v' w') (h : wpList P ops Q rest (a.put o.dst v') w') : wpList P ops Q (o :: rest) a w :=
  wpList_plain hgd fun _ hK => wp_copy_runA w d s t t' ho v u hd hs hr (hK _ _ h)
theorem step_copy_runA {ops : Array Oper} {o : Oper} {a : Act} {w : World} {K : Act → World → Prop} {Q : Exit → Act → World → Prop} {E : Prop}
    (hg : o.guard = none) (d x : Operand) (dT sT : TypeId) (hop : o.op = Op.call { callee := Callee.builtin Builtin.copy, args := #[d, x], argTypes := #[dT, sT] })
    (v u : Value) (hd : a.eval d = v) (hx : a.eval x = u) {v' : Value} {w' : World} (hr : (Builtin.copy_ #[dT, sT] o.type #[v, u]).run P w = .ok v' w') (hK : K (a.put o.dst v') w') :
    if Region.wanted o (yielded ops a.tmps) = true then Oper.wp P o a w K Q else E := by
  have hw : Region.wanted o (yielded ops a.tmps) = true := by simp [Region.wanted, hg]
  rw [if_pos hw]
  unfold Oper.wp
  simp [execOp, hop, resolve, invoke, builtin, hd, hx, hr, Result.andThen]
  exact hK
/-- 'append(s, make([]T, m)...)' where there is no room. -/
theorem run_append_make (w : World) (t tn ty e : TypeId) (k : IntKind) (i : TypeInfo) (z : Value) (ht : P.underlying t = some (.slice e)) (htn : P.underlying tn = some (.int k)) (hi : P.info? e = some i) (hz : i.zero = some z)
    (b : Addr) (sLen sCap : Nat) (olds : List Value) (hlo : olds.length = sLen * i.size) (holds : ∀ j v, olds[j]? = some v → w.cell? (b.add j) = some v)
    (n : Nat) (hn0 : ¬ n * i.size = 0) (hnw : IntKind.i64.wrap (n : Int) = (n : Int)) (hnb : ¬ (n : Int) * (i.bytes : Int) > 281474976710656)
    (hg : sCap < sLen + n) (h63 : ((sLen + n : Nat) : Int) ≤ 9223372036854775807) (hfit : Builtin.nextslicecap (sLen + n) sCap * i.bytes ≤ 281474976710656) :
    (Builtin.append_ #[t, tn] ty #[.slice (some b) sLen sCap, .int .i64 (n : Int)]).run P w =
      .ok (.slice (some ⟨w.heap.size, 0, none⟩) (sLen + n) (grownCap w (sLen + n) sCap e))
        (w.drew.alloc (.cells (olds.toArray ++ Builtin.zeroCells z.cells n ++ Builtin.zeroCells z.cells (grownCap w (sLen + n) sCap e - (sLen + n))) e)) := by
  have hn : ¬ (sLen + n ≤ sCap) := by omega
  have h63' : ¬ (9223372036854775807 < ((sLen : Int) + (n : Int))) := by omega
  have h48' : ¬ (281474976710656 < Builtin.nextslicecap (sLen + n) sCap * i.bytes) := by omega
  have hneg : ¬ (n : Int) < 0 := by omega
  have hfo := run_firstCells_some (P := P) w.drew i.size sLen b sLen sCap olds hlo (by simpa using holds)
  simp [Builtin.append_, run_underlying ht, run_underlying htn, sizeOf, typeInfo, zeroValue, hi, hz, Builtin.lenOf, asInt, asIntOf, hnw, hneg, hnb, hn, h63', h48', hn0, Question.forced, hfo, newRow, grownCap]
end
theorem wrapE1 (i : Nat) (h : i ≤ 1000000) : wrap64 ((i : Int) + 1) = (i : Int) + 1 := by unfold wrap64; omega
theorem wrapE1K (i : Nat) (h : i ≤ 1000000) : IntKind.i64.wrap ((i : Int) + 1) = (i : Int) + 1 := by rw [IntKind.wrap_i64]; omega
theorem size_setRowE (w : World) (g : Nat) (cs : Array Value) : (w.setRow g cs).heap.size = w.heap.size := by simp [World.setRow]
def inE (l : List En) (i : Nat) (x : En) : List En := l.take i ++ x :: l.drop i
theorem inE_length (l : List En) (i : Nat) (x : En) (h : i ≤ l.length) : (inE l i x).length = l.length + 1 := by unfold inE; rw [List.length_append, List.length_cons, List.length_take, List.length_drop]; omega
theorem ok_inE {l : List En} (hl : okE l) (i : Nat) {x : En} (hx : x.p.a.ok) : okE (inE l i x) := by
  intro e he
  rcases List.mem_append.1 he with h | h
  · exact hl e (List.mem_of_mem_take h)
  · rcases List.mem_cons.1 h with rfl | h
    · exact hx
    · exact hl e (List.mem_of_mem_drop h)
theorem flE_inE {l : List En} (hl : okE l) (i : Nat) (hi : i ≤ l.length) (x : En) : flE (inE l i x) = (flE l).take (i * 19) ++ (lE x ++ (flE l).drop (i * 19)) := by
  unfold inE
  rw [flE_append, flE_cons, flE_take hl i hi, flE_drop hl i hi]
theorem info_En : (Try.prog.info? 42).map (fun i => (i.zero, i.size, i.bytes)) = some (some (.agg (eE noE)), 19, 40) := by kernel_rfl
theorem val_at {w : World} {vb : Nat} {t : TypeId} {x : En} (hv : w.heap[vb]? = some (.cells (eE x) t (0, 0))) : ∀ j u, (lE x)[j]? = some u → w.cell? ((⟨vb, 0, none⟩ : Addr).add j) = some u := fun j u hj => by
  rw [add_plain, cell_of_row w vb j (eE x) t (0, 0) hv]
  unfold eE
  rw [List.getElem?_toArray]
  exact hj
set_option maxHeartbeats 4000000 in
set_option maxRecDepth 100000 in
theorem ins_nil (base : Nat) (x : En) (hx : x.p.a.ok) (vb : Nat) (w : World) (hv : w.heap[vb]? = some (.cells (eE x) 42 (0, 0))) (hb : base ≤ w.heap.size) :
    Calls Try.prog 50 #[.slice none 0 0, .int .i64 0, .slice (some ⟨vb, 0, none⟩) 1 1] w fun e w' =>
      ∃ v', e = .returned v' ∧ w'.ownsRow base 42 19 v' 1 (lE x) ∧ w.grownBy w' none := by
  obtain ⟨i0, hi, hz0, hz1, hz2⟩ := info_parts info_En
  have HV := Aside0.mk (val_at hv)
  have HLX := Aside0.mk (lE_len hx)
  have HROW := Aside0.mk (World.ownsRow_nil w base 42 19)
  clear hv hx
  go_enter Try.func50, Try.ntmps50
  go_wp2_with (at_builtin; refine wpList_append_own _ rfl _ _ 50 rfl base 42 i0 (.agg (eE noE)) 19 40 Try.underlying50 hi hz0 hz1 hz2 (eE_size ok_noE) (by decide) _ _ _ rfl HROW.out ⟨vb, 0, none⟩ 1 1 (lE x) rfl (by rw [HLX.out]) HV.out (lE_one x) (by decide) (by decide) hb ?_)
  intro v' w1 hown hgrow hnil
  go_wp2
  go_ret
  exact ⟨v', rfl, by simpa using hown, hgrow⟩
set_option maxHeartbeats 4000000 in
set_option maxRecDepth 100000 in
theorem ins_end (base g cap : Nat) (l : List En) (hl0 : okE l) (x : En) (hx : x.p.a.ok) (vb : Nat) (w : World) (hrow : w.ownsRow base 42 19 (.slice (some ⟨g, 0, none⟩) l.length cap) l.length (flE l))
    (hv : w.heap[vb]? = some (.cells (eE x) 42 (0, 0))) (hl : l.length ≤ 1000000) (hb : base ≤ w.heap.size) :
    Calls Try.prog 50 #[.slice (some ⟨g, 0, none⟩) l.length cap, .int .i64 (l.length : Int), .slice (some ⟨vb, 0, none⟩) 1 1] w fun e w' =>
      ∃ v', e = .returned v' ∧ w'.ownsRow base 42 19 v' (l.length + 1) (flE (inE l l.length x)) ∧ w.grownBy w' (some g) := by
  obtain ⟨i0, hi, hz0, hz1, hz2⟩ := info_parts info_En
  have hc : l.length ≤ cap := own_le hrow
  have HROW := Aside0.mk hrow
  have HL := Aside0.mk hl
  have HV := Aside0.mk (val_at hv)
  have HLX := Aside0.mk (lE_len hx)
  have HF := Aside0.mk (show flE (inE l l.length x) = flE l ++ lE x by
    rw [flE_inE hl0 l.length (Nat.le_refl _) x, List.take_of_length_le (by rw [flE_len hl0]; exact Nat.le_refl _), List.drop_of_length_le (by rw [flE_len hl0]; exact Nat.le_refl _), List.append_nil])
  rw [HF.out]
  clear hrow hl hv hx hl0
  rcases Nat.lt_or_ge l.length cap with hlt | hge
  · have hne : ¬ (cap = l.length) := by omega
    go_enter Try.func50, Try.ntmps50
    go_wp2_with (at_builtin; refine wpList_append_own _ rfl _ _ 50 rfl base 42 i0 (.agg (eE noE)) 19 40 Try.underlying50 hi hz0 hz1 hz2 (eE_size ok_noE) (by decide) _ _ _ rfl HROW.out ⟨vb, 0, none⟩ 1 1 (lE x) rfl (by rw [HLX.out]) HV.out (lE_one x) ?qc4 ?qc5 hb ?_)
    case qc4 => have := HL.out; simp only [maxLen]; omega
    case qc5 => have := HL.out; omega
    intro v' w1 hown hgrow hnil
    go_wp2
    go_ret
    exact ⟨v', rfl, by simpa using hown, hgrow⟩
  · have heq : cap = l.length := by omega
    subst heq
    go_enter Try.func50, Try.ntmps50
    go_wp2_with (at_builtin; refine wpList_append_own _ rfl _ _ 50 rfl base 42 i0 (.agg (eE noE)) 19 40 Try.underlying50 hi hz0 hz1 hz2 (eE_size ok_noE) (by decide) _ _ _ rfl HROW.out ⟨vb, 0, none⟩ 1 1 (lE x) rfl (by rw [HLX.out]) HV.out (lE_one x) ?rc4 ?rc5 hb ?_)
    case rc4 => have := HL.out; simp only [maxLen]; omega
    case rc5 => have := HL.out; omega
    intro v' w1 hown hgrow hnil
    go_wp2
    go_ret
    exact ⟨v', rfl, by simpa using hown, hgrow⟩
set_option maxHeartbeats 4000000 in
set_option maxRecDepth 100000 in
theorem ins_shift (base g cap i : Nat) (l : List En) (hl0 : okE l) (x : En) (hx : x.p.a.ok) (vb : Nat) (w : World) (hrow : w.ownsRow base 42 19 (.slice (some ⟨g, 0, none⟩) l.length cap) l.length (flE l))
    (hi : i < l.length) (hroom : l.length + 1 ≤ cap) (hv : w.heap[vb]? = some (.cells (eE x) 42 (0, 0))) (hvg : vb ≠ g) (hl : l.length ≤ 1000000) :
    Calls Try.prog 50 #[.slice (some ⟨g, 0, none⟩) l.length cap, .int .i64 (i : Int), .slice (some ⟨vb, 0, none⟩) 1 1] w fun e w' =>
      ∃ v', e = .returned v' ∧ w'.ownsRow base 42 19 v' (l.length + 1) (flE (inE l i x)) ∧ w.grownBy w' (some g) := by
  have hbg := own_base hrow g rfl
  rcases hrow.2 with ⟨h', _⟩ | ⟨g', cap', cur, h', _, hh, hn, hm, hs, ht⟩
  · cases h'
  obtain ⟨rfl, rfl⟩ : g = g' ∧ cap = cap' := by
    injection h' with h1 h2 h3
    injection h1 with h1
    injection h1 with h1
    exact ⟨h1, h3⟩
  have hcl : cur.toList.length = cap * 19 := by rw [Array.length_toList, hs]
  have hm63 : cap ≤ 9223372036854775807 := hm
  obtain ⟨n, hnl⟩ : ∃ n, l.length = n := ⟨_, rfl⟩
  have hld : (flE (l.drop i)).length = (n - i) * 19 := by rw [flE_len (fun e he => hl0 e (List.mem_of_mem_drop he)), List.length_drop, hnl]
  have hlx := lE_len hx
  have hz26 : ∀ w, (Go.sizeOf 42).run Try.prog w = .ok 19 w := fun w => by simp [go_sem]
  have hov : ∀ lb cb, (callFunc 73 #[.slice (some ⟨vb, 0, none⟩) 1 1, .slice (some ⟨g, (i + 1) * 19, none⟩) lb cb]).run Try.prog w = .ok (.value (.bool false)) w := fun lb cb => by
    rw [run_callFunc_extern Try.func73 (by kernel_rfl) (by kernel_rfl) (by kernel_rfl) (e := Extern.SlicesOverlaps.overlaps #[50, 50] #[4]) (by kernel_rfl),
      Lib.run_overlaps_apart w 50 4 42 Try.underlying50 19 hz26 ⟨vb, 0, none⟩ ⟨g, (i + 1) * 19, none⟩ 1 1 lb cb hvg 42 42 19 (cap * 19) (by simp [World.shape?, hv, eE_size hx]) (by simp [World.shape?, hh, hs]) (by omega) (by simp [World.frozen?, hv]) (by simp [World.frozen?, hv])]
    rfl
  have hcp1 : ∀ ty dc sc, (Builtin.copy_ #[50, 50] ty #[.slice (some ⟨g, (i + 1) * 19, none⟩) (n - i) dc, .slice (some ⟨g, i * 19, none⟩) (n + 1 - i) sc]).run Try.prog w.drew = _ := fun ty dc sc =>
    run_copy_wide w.drew _ _ ty 42 19 g ((i + 1) * 19) (n - i) dc ⟨g, i * 19, none⟩ (n + 1 - i) sc cur 42 (flE (l.drop i)) Try.underlying50 infoEn hh (by rw [hld]; simp only [Nat.min_def]; split <;> omega)
      (fun j v hj => by
        rw [Addr.add_lit]
        have hj2 : (flE l)[i * 19 + j]? = some v := by rw [flE_drop hl0 i (Nat.le_of_lt hi)] at hj; rwa [List.getElem?_drop] at hj
        have := hrow.cells (g := g) rfl (i * 19 + j) v hj2
        rwa [add_plain] at this)
      (by rw [hld, hs]; omega) (flE_one _)
  obtain ⟨cur1, hc1⟩ : ∃ cur1 : Array Value, (cur.toList.take ((i + 1) * 19) ++ flE (l.drop i) ++ cur.toList.drop ((i + 1) * 19 + (flE (l.drop i)).length)).toArray = cur1 := ⟨_, rfl⟩
  rw [hc1] at hcp1
  obtain ⟨W1, hW1⟩ : ∃ W1, w.drew.setRow g cur1 = W1 := ⟨_, rfl⟩
  rw [hW1] at hcp1
  have hh1 : W1.heap[g]? = some (.cells cur1 42 (0, 0)) := by rw [← hW1]; exact setRow_heap w.drew g cur _ _ _ hh
  have hv1 : W1.heap[vb]? = some (.cells (eE x) 42 (0, 0)) := by rw [← hW1]; exact (setRow_other w.drew g vb _ hvg).trans hv
  have hs1 : cur1.size = cap * 19 := by
    rw [← hc1]
    simp only [List.size_toArray, List.length_append, List.length_take, List.length_drop, hld, hcl]
    omega
  obtain ⟨cur2, hc2⟩ : ∃ cur2 : Array Value, (cur1.toList.take (i * 19) ++ lE x ++ cur1.toList.drop (i * 19 + (lE x).length)).toArray = cur2 := ⟨_, rfl⟩
  have hcp2 : ∀ (W : World), W.heap = W1.heap → ∀ ty dc, (Builtin.copy_ #[50, 50] ty #[.slice (some ⟨g, i * 19, none⟩) (n + 1 - i) dc, .slice (some ⟨vb, 0, none⟩) 1 1]).run Try.prog W = .ok (goInt 1) (W.setRow g cur2) := fun W hW ty dc =>
    (run_copy_wide W _ _ ty 42 19 g (i * 19) (n + 1 - i) dc ⟨vb, 0, none⟩ 1 1 cur1 42 (lE x) Try.underlying50 infoEn (by rw [hW]; exact hh1) (by have : Nat.min 1 (n + 1 - i) = 1 := Nat.min_eq_left (by omega); rw [this, hlx])
      (val_at (by rw [hW]; exact hv1))
      (by rw [hs1, hlx]; omega) (lE_one x)).trans (by rw [hc2, show Nat.min 1 (n + 1 - i) = 1 from Nat.min_eq_left (show 1 ≤ n + 1 - i by omega)]; rfl)
  have hs2 : cur2.size = cap * 19 := by
    rw [← hc2]
    simp only [List.size_toArray, List.length_append, List.length_take, List.length_drop, Array.length_toList, hs1, hlx]
    omega
  have ht2 : cur2.toList.take ((n + 1) * 19) = flE (inE l i x) := by
    have e1 : cur1.toList = cur.toList.take ((i + 1) * 19) ++ (flE (l.drop i) ++ cur.toList.drop ((i + 1) * 19 + (flE (l.drop i)).length)) := by rw [← hc1]; simp only [List.append_assoc]
    have e2 : cur2.toList = cur1.toList.take (i * 19) ++ (lE x ++ cur1.toList.drop (i * 19 + 19)) := by rw [← hc2, hlx]; simp only [List.append_assoc]
    have e3 : (cur.toList.take ((i + 1) * 19)).length = (i + 1) * 19 := by rw [List.length_take, hcl]; omega
    have e4 : cur1.toList.take (i * 19) = (flE l).take (i * 19) := by
      rw [e1, List.take_append_of_le_length (by rw [e3]; omega), List.take_take, Nat.min_eq_left (by omega), ← ht, List.take_take, Nat.min_eq_left (by omega)]
    have e5 : cur1.toList.drop (i * 19 + 19) = flE (l.drop i) ++ cur.toList.drop ((i + 1) * 19 + (flE (l.drop i)).length) := by
      rw [e1, show i * 19 + 19 = (cur.toList.take ((i + 1) * 19)).length from by rw [e3]; omega, List.drop_left]
    have e6 : cur2.toList = flE (inE l i x) ++ cur.toList.drop ((i + 1) * 19 + (flE (l.drop i)).length) := by
      rw [e2, e4, e5, flE_inE hl0 i (Nat.le_of_lt hi) x, flE_drop hl0 i (Nat.le_of_lt hi)]
      simp only [List.append_assoc]
    rw [e6, show (n + 1) * 19 = (flE (inE l i x)).length from by rw [flE_len (ok_inE hl0 i hx), inE_length l i x (Nat.le_of_lt hi), hnl], List.take_left]
  have hlf : (flE (inE l i x)).length = (n + 1) * 19 := by rw [flE_len (ok_inE hl0 i hx), inE_length l i x (Nat.le_of_lt hi), hnl]
  have HS2 := Aside0.mk hs2
  have HT2 := Aside0.mk ht2
  have HLF := Aside0.mk hlf
  have HH1 := Aside0.mk hh1
  have HW1 := Aside0.mk hW1
  have HM := Aside0.mk hm
  have hz2 : ¬ ((i : Int) = (n : Int)) := by omega
  have hb1 : (0 : Int) ≤ (i : Int) + 1 := by omega
  have hin : i ≤ n := by omega
  have htn : ((i : Int) + 1).toNat = i + 1 := by omega
  have hb2 : ¬ (cap = i + 1) := by omega
  have hb3 : (i : Int) ≤ (n : Int) + 1 := by omega
  have hb4 : ¬ (cap = i) := by omega
  have hroom' : n + 1 ≤ cap := by omega
  have hw3 : IntKind.i64.wrap ((i : Int) + 1) = (i : Int) + 1 := wrapE1K i (by omega)
  have hw1 : wrap64 ((i : Int) + 1) = (i : Int) + 1 := wrapE1 i (by omega)
  have hw2 : wrap64 ((n : Int) + 1) = (n : Int) + 1 := wrapE1 n (by omega)
  have mixed : Try.prog.follows Departure.mixedOrders = true := by kernel_rfl
  rw [hnl]
  clear hh1 hv1 hs1 hs2 ht2 hc1 hc2 hW1 hrow hh hs hcl ht hm hv hl hn h' hlx hld hlf hx hl0
  go_enter Try.func50, Try.ntmps50
  go_wp2_with (simp only [hov])
  go_region_law_o (refine step_copy_runA rfl _ _ 50 50 rfl _ _ (by simp [Act.eval, Act.put]) (by simp [Act.eval, Act.put]) (hcp1 _ _ _) ?_)
  go_wp2_with (at_builtin; refine wpList_copy_runA _ rfl _ _ 50 50 rfl _ _ rfl rfl (hcp2 _ rfl _ _) ?_)
  go_ret
  exact ⟨_, rfl, ⟨HLF.out, .inr ⟨g, cap, cur2, rfl, hbg, setRow_heap W1 g cur1 _ _ _ HH1.out, hroom', HM.out, HS2.out, HT2.out⟩⟩, by
    rw [← HW1.out]
    exact ⟨rfl, rfl, rfl, by rw [size_setRowE, size_setRowE]; exact Nat.le_refl _, fun k _ hne => (setRow_other _ g k _ (by intro e; subst e; exact hne rfl)).trans (setRow_other w.drew g k _ (by intro e; subst e; exact hne rfl))⟩⟩
end Go.Proofs.Ythjhbhgfckaklaa.P
