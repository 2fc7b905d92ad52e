/-
  Texts of the proof, put together.
-/
import Derived.Lib.Overlaps
import Derived.Laws.Externs
import Derived.Shelf.RegionOpenPlain
import Derived.Test.YthdognlkacjkhaaGreatDoorM6
section
namespace Go.Proofs.YthdognlkacjkhaaGreatDoor.P
open Go.RowKit Go.Shelf Go.Proofs.YthdognlkacjkhaaGreatDoorW.PrintWords Go.Proofs.YthdognlkacjkhaaGreatDoorW.PrintLast Go.Proofs.YthdognlkacjkhaaGreatDoorW.PrintMore
set_option linter.unusedVariables false
set_option linter.unusedSimpArgs false
section
variable {P : Program}
/-- 'copy' over elements of so many cells, into a row that is known whole. -/
theorem run_copy_wide (w : World) (dT sT ty elem : TypeId) (N g o dLen dCap : Nat) (a : Addr) (sLen sCap : Nat) (cur : Array Value) (t : TypeId) (cs : List Value)
    (hu : P.underlying dT = some (.slice elem)) (hs : (P.info? elem).map (·.size) = some N)
    (hg : w.heap[g]? = some (.cells cur t (0, 0))) (hn : cs.length = Nat.min sLen dLen * N)
    (hsrc : ∀ j v, cs[j]? = some v → w.cell? (a.add j) = some v) (hfit : o + cs.length ≤ cur.size) (h1 : ∀ v ∈ cs, v.oneCell' = true) :
    (Builtin.copy_ #[dT, sT] ty #[.slice (some ⟨g, o, none⟩) dLen dCap, .slice (some a) sLen sCap]).run P w =
      .ok (goInt (Nat.min sLen dLen)) (w.setRow g (cur.toList.take o ++ cs ++ cur.toList.drop (o + cs.length)).toArray) := by
  have hl := run_loadCells_list (P := P) w a cs hsrc
  have hst := run_storeCells_at P g o t cs 0 cur w hg (by simpa using hfit) h1
  cases hq : P.info? elem with
  | none => simp [hq] at hs
  | some i =>
    have hi : i.size = N := by simpa [hq] using hs
    simp [Builtin.copy_, run_underlying hu, Builtin.lenOf, Builtin.firstCells, sizeOf, typeInfo, hq, hi, ← hn, hl, hst]
theorem wpList_copy_runA (w : World) {ops : Array Oper} {rest : List Oper} {o : Oper} {a : Act} {Q : Exit → Act → World → Prop} (hgd : o.guard = none) (d s : Operand) (t t' : TypeId)
    (ho : o.op = .call { callee := .builtin .copy, args := #[d, s], argTypes := #[t, t'] }) (v u : Value) (hd : a.eval d = v) (hs : a.eval s = u) {v' : Value} {w' : World}
    (hr : (Builtin.copy_ #[t, t'] o.type #[v, u]).run P w = .ok v' w') (h : wpList P ops Q rest (a.put o.dst v') w') : wpList P ops Q (o :: rest) a w :=
  wpList_plain hgd fun _ hK => wp_copy_runA w d s t t' ho v u hd hs hr (hK _ _ h)
theorem step_copy_runA {ops : Array Oper} {o : Oper} {a : Act} {w : World} {K : Act → World → Prop} {Q : Exit → Act → World → Prop} {E : Prop}
    (hg : o.guard = none) (d x : Operand) (dT sT : TypeId) (hop : o.op = Op.call { callee := Callee.builtin Builtin.copy, args := #[d, x], argTypes := #[dT, sT] })
    (v u : Value) (hd : a.eval d = v) (hx : a.eval x = u) {v' : Value} {w' : World} (hr : (Builtin.copy_ #[dT, sT] o.type #[v, u]).run P w = .ok v' w') (hK : K (a.put o.dst v') w') :
    if Region.wanted o (yielded ops a.tmps) = true then Oper.wp P o a w K Q else E := by
  have hw : Region.wanted o (yielded ops a.tmps) = true := by simp [Region.wanted, hg]
  rw [if_pos hw]
  unfold Oper.wp
  simp [execOp, hop, resolve, invoke, builtin, hd, hx, hr, Result.andThen]
  exact hK
/-- 'append(s, make([]T, m)...)' where there is no room. -/
theorem run_append_make (w : World) (t tn ty e : TypeId) (k : IntKind) (i : TypeInfo) (z : Value) (ht : P.underlying t = some (.slice e)) (htn : P.underlying tn = some (.int k)) (hi : P.info? e = some i) (hz : i.zero = some z)
    (b : Addr) (sLen sCap : Nat) (olds : List Value) (hlo : olds.length = sLen * i.size) (holds : ∀ j v, olds[j]? = some v → w.cell? (b.add j) = some v)
    (n : Nat) (hn0 : ¬ n * i.size = 0) (hnw : IntKind.i64.wrap (n : Int) = (n : Int)) (hnb : ¬ (n : Int) * (i.bytes : Int) > 281474976710656)
    (hg : sCap < sLen + n) (h63 : ((sLen + n : Nat) : Int) ≤ 9223372036854775807) (hfit : Builtin.nextslicecap (sLen + n) sCap * i.bytes ≤ 281474976710656) :
    (Builtin.append_ #[t, tn] ty #[.slice (some b) sLen sCap, .int .i64 (n : Int)]).run P w =
      .ok (.slice (some ⟨w.heap.size, 0, none⟩) (sLen + n) (grownCap w (sLen + n) sCap e))
        (w.drew.alloc (.cells (olds.toArray ++ Builtin.zeroCells z.cells n ++ Builtin.zeroCells z.cells (grownCap w (sLen + n) sCap e - (sLen + n))) e)) := by
  have hn : ¬ (sLen + n ≤ sCap) := by omega
  have h63' : ¬ (9223372036854775807 < ((sLen : Int) + (n : Int))) := by omega
  have h48' : ¬ (281474976710656 < Builtin.nextslicecap (sLen + n) sCap * i.bytes) := by omega
  have hneg : ¬ (n : Int) < 0 := by omega
  have hfo := run_firstCells_some (P := P) w.drew i.size sLen b sLen sCap olds hlo (by simpa using holds)
  simp [Builtin.append_, run_underlying ht, run_underlying htn, sizeOf, typeInfo, zeroValue, hi, hz, Builtin.lenOf, asInt, asIntOf, hnw, hneg, hnb, hn, h63', h48', hn0, Question.forced, hfo, newRow, grownCap]
end
theorem wrapE1 (i : Nat) (h : i ≤ 1000000) : wrap64 ((i : Int) + 1) = (i : Int) + 1 := by unfold wrap64; omega
theorem wrapE1K (i : Nat) (h : i ≤ 1000000) : IntKind.i64.wrap ((i : Int) + 1) = (i : Int) + 1 := by rw [IntKind.wrap_i64]; omega
theorem size_setRowE (w : World) (g : Nat) (cs : Array Value) : (w.setRow g cs).heap.size = w.heap.size := by simp [World.setRow]
def inE (l : List En) (i : Nat) (x : En) : List En := l.take i ++ x :: l.drop i
theorem inE_length (l : List En) (i : Nat) (x : En) (h : i ≤ l.length) : (inE l i x).length = l.length + 1 := by unfold inE; rw [List.length_append, List.length_cons, List.length_take, List.length_drop]; omega
theorem ok_inE {l : List En} (hl : okE l) (i : Nat) {x : En} (hx : x.p.a.ok) : okE (inE l i x) := by
  intro e he
  rcases List.mem_append.1 he with h | h
  · exact hl e (List.mem_of_mem_take h)
  · rcases List.mem_cons.1 h with rfl | h
    · exact hx
    · exact hl e (List.mem_of_mem_drop h)
theorem flE_inE {l : List En} (hl : okE l) (i : Nat) (hi : i ≤ l.length) (x : En) : flE (inE l i x) = (flE l).take (i * 19) ++ (lE x ++ (flE l).drop (i * 19)) := by
  unfold inE
  rw [flE_append, flE_cons, flE_take hl i hi, flE_drop hl i hi]
theorem info_En : (Tryz.prog.info? 44).map (fun i => (i.zero, i.size, i.bytes)) = some (some (.agg (eE noE)), 19, 40) := by kernel_rfl
theorem val_at {w : World} {vb : Nat} {t : TypeId} {x : En} (hv : w.heap[vb]? = some (.cells (eE x) t (0, 0))) : ∀ j u, (lE x)[j]? = some u → w.cell? ((⟨vb, 0, none⟩ : Addr).add j) = some u := fun j u hj => by
  rw [add_plain, cell_of_row w vb j (eE x) t (0, 0) hv]
  unfold eE
  rw [List.getElem?_toArray]
  exact hj
set_option maxHeartbeats 4000000 in
set_option maxRecDepth 100000 in
theorem ins_nil (base : Nat) (x : En) (hx : x.p.a.ok) (vb : Nat) (w : World) (hv : w.heap[vb]? = some (.cells (eE x) 44 (0, 0))) (hb : base ≤ w.heap.size) :
    Calls Tryz.prog 47 #[.slice none 0 0, .int .i64 0, .slice (some ⟨vb, 0, none⟩) 1 1] w fun e w' =>
      ∃ v', e = .returned v' ∧ w'.ownsRow base 44 19 v' 1 (lE x) ∧ w.grownBy w' none := by
  obtain ⟨i0, hi, hz0, hz1, hz2⟩ := info_parts info_En
  have HV := Aside0.mk (val_at hv)
  have HLX := Aside0.mk (lE_len hx)
  have HROW := Aside0.mk (World.ownsRow_nil w base 44 19)
  clear hv hx
  go_enter Tryz.func47, Tryz.ntmps47
  go_wp2_with (at_builtin; refine wpList_append_own _ rfl _ _ 23 rfl base 44 i0 (.agg (eE noE)) 19 40 Tryz.underlying23 hi hz0 hz1 hz2 (eE_size ok_noE) (by decide) _ _ _ rfl HROW.out ⟨vb, 0, none⟩ 1 1 (lE x) rfl (by rw [HLX.out]) HV.out (lE_one x) (by decide) (by decide) hb ?_)
  intro v' w1 hown hgrow hnil
  go_wp2
  go_ret
  exact ⟨v', rfl, by simpa using hown, hgrow⟩
set_option maxHeartbeats 4000000 in
set_option maxRecDepth 100000 in
theorem ins_end (base g cap : Nat) (l : List En) (hl0 : okE l) (x : En) (hx : x.p.a.ok) (vb : Nat) (w : World) (hrow : w.ownsRow base 44 19 (.slice (some ⟨g, 0, none⟩) l.length cap) l.length (flE l))
    (hv : w.heap[vb]? = some (.cells (eE x) 44 (0, 0))) (hl : l.length ≤ 1000000) (hb : base ≤ w.heap.size) :
    Calls Tryz.prog 47 #[.slice (some ⟨g, 0, none⟩) l.length cap, .int .i64 (l.length : Int), .slice (some ⟨vb, 0, none⟩) 1 1] w fun e w' =>
      ∃ v', e = .returned v' ∧ w'.ownsRow base 44 19 v' (l.length + 1) (flE (inE l l.length x)) ∧ w.grownBy w' (some g) := by
  obtain ⟨i0, hi, hz0, hz1, hz2⟩ := info_parts info_En
  have hc : l.length ≤ cap := own_le hrow
  have HROW := Aside0.mk hrow
  have HL := Aside0.mk hl
  have HV := Aside0.mk (val_at hv)
  have HLX := Aside0.mk (lE_len hx)
  have HF := Aside0.mk (show flE (inE l l.length x) = flE l ++ lE x by
    rw [flE_inE hl0 l.length (Nat.le_refl _) x, List.take_of_length_le (by rw [flE_len hl0]; exact Nat.le_refl _), List.drop_of_length_le (by rw [flE_len hl0]; exact Nat.le_refl _), List.append_nil])
  rw [HF.out]
  clear hrow hl hv hx hl0
  rcases Nat.lt_or_ge l.length cap with hlt | hge
  · have hne : ¬ (cap = l.length) := by omega
    go_enter Tryz.func47, Tryz.ntmps47
    go_wp2_with (at_builtin; refine wpList_append_own _ rfl _ _ 23 rfl base 44 i0 (.agg (eE noE)) 19 40 Tryz.underlying23 hi hz0 hz1 hz2 (eE_size ok_noE) (by decide) _ _ _ rfl HROW.out ⟨vb, 0, none⟩ 1 1 (lE x) rfl (by rw [HLX.out]) HV.out (lE_one x) ?qc4 ?qc5 hb ?_)
    case qc4 => have := HL.out; simp only [maxLen]; omega
    case qc5 => have := HL.out; omega
    intro v' w1 hown hgrow hnil
    go_wp2
    go_ret
    exact ⟨v', rfl, by simpa using hown, hgrow⟩
  · have heq : cap = l.length := by omega
    subst heq
    go_enter Tryz.func47, Tryz.ntmps47
    go_wp2_with (at_builtin; refine wpList_append_own _ rfl _ _ 23 rfl base 44 i0 (.agg (eE noE)) 19 40 Tryz.underlying23 hi hz0 hz1 hz2 (eE_size ok_noE) (by decide) _ _ _ rfl HROW.out ⟨vb, 0, none⟩ 1 1 (lE x) rfl (by rw [HLX.out]) HV.out (lE_one x) ?rc4 ?rc5 hb ?_)
    case rc4 => have := HL.out; simp only [maxLen]; omega
    case rc5 => have := HL.out; omega
    intro v' w1 hown hgrow hnil
    go_wp2
    go_ret
    exact ⟨v', rfl, by simpa using hown, hgrow⟩
set_option maxHeartbeats 4000000 in
set_option maxRecDepth 100000 in
theorem ins_shift (base g cap i : Nat) (l : List En) (hl0 : okE l) (x : En) (hx : x.p.a.ok) (vb : Nat) (w : World) (hrow : w.ownsRow base 44 19 (.slice (some ⟨g, 0, none⟩) l.length cap) l.length (flE l))
    (hi : i < l.length) (hroom : l.length + 1 ≤ cap) (hv : w.heap[vb]? = some (.cells (eE x) 44 (0, 0))) (hvg : vb ≠ g) (hl : l.length ≤ 1000000) :
    Calls Tryz.prog 47 #[.slice (some ⟨g, 0, none⟩) l.length cap, .int .i64 (i : Int), .slice (some ⟨vb, 0, none⟩) 1 1] w fun e w' =>
      ∃ v', e = .returned v' ∧ w'.ownsRow base 44 19 v' (l.length + 1) (flE (inE l i x)) ∧ w.grownBy w' (some g) := by
  have hbg := own_base hrow g rfl
  rcases hrow.2 with ⟨h', _⟩ | ⟨g', cap', cur, h', _, hh, hn, hm, hs, ht⟩
  · cases h'
  obtain ⟨rfl, rfl⟩ : g = g' ∧ cap = cap' := by
    injection h' with h1 h2 h3
    injection h1 with h1
    injection h1 with h1
    exact ⟨h1, h3⟩
  have hcl : cur.toList.length = cap * 19 := by rw [Array.length_toList, hs]
  have hm63 : cap ≤ 9223372036854775807 := hm
  obtain ⟨n, hnl⟩ : ∃ n, l.length = n := ⟨_, rfl⟩
  have hld : (flE (l.drop i)).length = (n - i) * 19 := by rw [flE_len (fun e he => hl0 e (List.mem_of_mem_drop he)), List.length_drop, hnl]
  have hlx := lE_len hx
  have hz26 : ∀ w, (Go.sizeOf 44).run Tryz.prog w = .ok 19 w := fun w => by simp [go_sem]
  have hov : ∀ lb cb, (callFunc 77 #[.slice (some ⟨vb, 0, none⟩) 1 1, .slice (some ⟨g, (i + 1) * 19, none⟩) lb cb]).run Tryz.prog w = .ok (.value (.bool false)) w := fun lb cb => by
    rw [run_callFunc_extern Tryz.func77 (by kernel_rfl) (by kernel_rfl) (by kernel_rfl) (e := Extern.SlicesOverlaps.overlaps #[23, 23] #[4]) (by kernel_rfl),
      Lib.run_overlaps_apart w 23 4 44 Tryz.underlying23 19 hz26 ⟨vb, 0, none⟩ ⟨g, (i + 1) * 19, none⟩ 1 1 lb cb hvg 44 44 19 (cap * 19) (by simp [World.shape?, hv, eE_size hx]) (by simp [World.shape?, hh, hs]) (by omega) (by simp [World.frozen?, hv]) (by simp [World.frozen?, hv])]
    rfl
  have hcp1 : ∀ ty dc sc, (Builtin.copy_ #[23, 23] ty #[.slice (some ⟨g, (i + 1) * 19, none⟩) (n - i) dc, .slice (some ⟨g, i * 19, none⟩) (n + 1 - i) sc]).run Tryz.prog w.drew = _ := fun ty dc sc =>
    run_copy_wide w.drew _ _ ty 44 19 g ((i + 1) * 19) (n - i) dc ⟨g, i * 19, none⟩ (n + 1 - i) sc cur 44 (flE (l.drop i)) Tryz.underlying23 infoEn hh (by rw [hld]; simp only [Nat.min_def]; split <;> omega)
      (fun j v hj => by
        rw [Addr.add_lit]
        have hj2 : (flE l)[i * 19 + j]? = some v := by rw [flE_drop hl0 i (Nat.le_of_lt hi)] at hj; rwa [List.getElem?_drop] at hj
        have := hrow.cells (g := g) rfl (i * 19 + j) v hj2
        rwa [add_plain] at this)
      (by rw [hld, hs]; omega) (flE_one _)
  obtain ⟨cur1, hc1⟩ : ∃ cur1 : Array Value, (cur.toList.take ((i + 1) * 19) ++ flE (l.drop i) ++ cur.toList.drop ((i + 1) * 19 + (flE (l.drop i)).length)).toArray = cur1 := ⟨_, rfl⟩
  rw [hc1] at hcp1
  obtain ⟨W1, hW1⟩ : ∃ W1, w.drew.setRow g cur1 = W1 := ⟨_, rfl⟩
  rw [hW1] at hcp1
  have hh1 : W1.heap[g]? = some (.cells cur1 44 (0, 0)) := by rw [← hW1]; exact setRow_heap w.drew g cur _ _ _ hh
  have hv1 : W1.heap[vb]? = some (.cells (eE x) 44 (0, 0)) := by rw [← hW1]; exact (setRow_other w.drew g vb _ hvg).trans hv
  have hs1 : cur1.size = cap * 19 := by
    rw [← hc1]
    simp only [List.size_toArray, List.length_append, List.length_take, List.length_drop, hld, hcl]
    omega
  obtain ⟨cur2, hc2⟩ : ∃ cur2 : Array Value, (cur1.toList.take (i * 19) ++ lE x ++ cur1.toList.drop (i * 19 + (lE x).length)).toArray = cur2 := ⟨_, rfl⟩
  have hcp2 : ∀ (W : World), W.heap = W1.heap → ∀ ty dc, (Builtin.copy_ #[23, 23] ty #[.slice (some ⟨g, i * 19, none⟩) (n + 1 - i) dc, .slice (some ⟨vb, 0, none⟩) 1 1]).run Tryz.prog W = .ok (goInt 1) (W.setRow g cur2) := fun W hW ty dc =>
    (run_copy_wide W _ _ ty 44 19 g (i * 19) (n + 1 - i) dc ⟨vb, 0, none⟩ 1 1 cur1 44 (lE x) Tryz.underlying23 infoEn (by rw [hW]; exact hh1) (by have : Nat.min 1 (n + 1 - i) = 1 := Nat.min_eq_left (by omega); rw [this, hlx])
      (val_at (by rw [hW]; exact hv1))
      (by rw [hs1, hlx]; omega) (lE_one x)).trans (by rw [hc2, show Nat.min 1 (n + 1 - i) = 1 from Nat.min_eq_left (show 1 ≤ n + 1 - i by omega)]; rfl)
  have hs2 : cur2.size = cap * 19 := by
    rw [← hc2]
    simp only [List.size_toArray, List.length_append, List.length_take, List.length_drop, Array.length_toList, hs1, hlx]
    omega
  have ht2 : cur2.toList.take ((n + 1) * 19) = flE (inE l i x) := by
    have e1 : cur1.toList = cur.toList.take ((i + 1) * 19) ++ (flE (l.drop i) ++ cur.toList.drop ((i + 1) * 19 + (flE (l.drop i)).length)) := by rw [← hc1]; simp only [List.append_assoc]
    have e2 : cur2.toList = cur1.toList.take (i * 19) ++ (lE x ++ cur1.toList.drop (i * 19 + 19)) := by rw [← hc2, hlx]; simp only [List.append_assoc]
    have e3 : (cur.toList.take ((i + 1) * 19)).length = (i + 1) * 19 := by rw [List.length_take, hcl]; omega
    have e4 : cur1.toList.take (i * 19) = (flE l).take (i * 19) := by
      rw [e1, List.take_append_of_le_length (by rw [e3]; omega), List.take_take, Nat.min_eq_left (by omega), ← ht, List.take_take, Nat.min_eq_left (by omega)]
    have e5 : cur1.toList.drop (i * 19 + 19) = flE (l.drop i) ++ cur.toList.drop ((i + 1) * 19 + (flE (l.drop i)).length) := by
      rw [e1, show i * 19 + 19 = (cur.toList.take ((i + 1) * 19)).length from by rw [e3]; omega, List.drop_left]
    have e6 : cur2.toList = flE (inE l i x) ++ cur.toList.drop ((i + 1) * 19 + (flE (l.drop i)).length) := by
      rw [e2, e4, e5, flE_inE hl0 i (Nat.le_of_lt hi) x, flE_drop hl0 i (Nat.le_of_lt hi)]
      simp only [List.append_assoc]
    rw [e6, show (n + 1) * 19 = (flE (inE l i x)).length from by rw [flE_len (ok_inE hl0 i hx), inE_length l i x (Nat.le_of_lt hi), hnl], List.take_left]
  have hlf : (flE (inE l i x)).length = (n + 1) * 19 := by rw [flE_len (ok_inE hl0 i hx), inE_length l i x (Nat.le_of_lt hi), hnl]
  have HS2 := Aside0.mk hs2
  have HT2 := Aside0.mk ht2
  have HLF := Aside0.mk hlf
  have HH1 := Aside0.mk hh1
  have HW1 := Aside0.mk hW1
  have HM := Aside0.mk hm
  have hz2 : ¬ ((i : Int) = (n : Int)) := by omega
  have hb1 : (0 : Int) ≤ (i : Int) + 1 := by omega
  have hin : i ≤ n := by omega
  have htn : ((i : Int) + 1).toNat = i + 1 := by omega
  have hb2 : ¬ (cap = i + 1) := by omega
  have hb3 : (i : Int) ≤ (n : Int) + 1 := by omega
  have hb4 : ¬ (cap = i) := by omega
  have hroom' : n + 1 ≤ cap := by omega
  have hw3 : IntKind.i64.wrap ((i : Int) + 1) = (i : Int) + 1 := wrapE1K i (by omega)
  have hw1 : wrap64 ((i : Int) + 1) = (i : Int) + 1 := wrapE1 i (by omega)
  have hw2 : wrap64 ((n : Int) + 1) = (n : Int) + 1 := wrapE1 n (by omega)
  have mixed : Tryz.prog.follows Departure.mixedOrders = true := by kernel_rfl
  rw [hnl]
  clear hh1 hv1 hs1 hs2 ht2 hc1 hc2 hW1 hrow hh hs hcl ht hm hv hl hn h' hlx hld hlf hx hl0
  go_enter Tryz.func47, Tryz.ntmps47
  go_wp2_with (simp only [hov])
  go_region_law_o (refine step_copy_runA rfl _ _ 23 23 rfl _ _ (by simp [Act.eval, Act.put]) (by simp [Act.eval, Act.put]) (hcp1 _ _ _) ?_)
  go_wp2_with (at_builtin; refine wpList_copy_runA _ rfl _ _ 23 23 rfl _ _ rfl rfl (hcp2 _ rfl _ _) ?_)
  go_ret
  exact ⟨_, rfl, ⟨HLF.out, .inr ⟨g, cap, cur2, rfl, hbg, setRow_heap W1 g cur1 _ _ _ HH1.out, hroom', HM.out, HS2.out, HT2.out⟩⟩, by
    rw [← HW1.out]
    exact ⟨rfl, rfl, rfl, by rw [size_setRowE, size_setRowE]; exact Nat.le_refl _, fun k _ hne => (setRow_other _ g k _ (by intro e; subst e; exact hne rfl)).trans (setRow_other w.drew g k _ (by intro e; subst e; exact hne rfl))⟩⟩
theorem wpList_append_runA {P : Program} (w : World) {ops : Array Oper} {rest : List Oper} {o : Oper} {a : Act} {Q : Exit → Act → World → Prop} (hgd : o.guard = none) (d s : Operand) (t t' : TypeId)
    (ho : o.op = .call { callee := .builtin .append, args := #[d, s], argTypes := #[t, t'] }) (v u : Value) (hd : a.eval d = v) (hs : a.eval s = u) {v' : Value} {w' : World}
    (hr : (Builtin.append_ #[t, t'] o.type #[v, u]).run P w = .ok v' w') (h : wpList P ops Q rest (a.put o.dst v') w') : wpList P ops Q (o :: rest) a w :=
  wpList_plain hgd fun _ hK => by
    unfold Oper.wp execOp
    simp only [ho, resolve, invoke, builtin, Sem.run_bind, Sem.run_pure, Result.andThen_ok, List.map_toArray, List.map_cons, List.map_nil, hd, hs, hr]
    exact hK _ _ h
theorem append_make_en (W : World) (ty : TypeId) (g cap i m : Nat) (l : List En) (hl0 : okE l) (hi : i ≤ l.length) (hm0 : 0 < m) (hmm : m ≤ 1000001) (hfull : cap < i + m) (hsum : i + m ≤ 1000001)
    (hcells : ∀ j u, (flE l)[j]? = some u → W.cell? ((⟨g, 0, none⟩ : Addr).add j) = some u) :
    ∃ (K : Nat) (W' : World) (cur : Array Value), (Builtin.append_ #[23, 3] ty #[.slice (some ⟨g, 0, none⟩) i cap, .int .i64 (m : Int)]).run Tryz.prog W = .ok (.slice (some ⟨W.heap.size, 0, none⟩) (i + m) K) W' ∧
      W'.heap[W.heap.size]? = some (.cells cur 44 (0, 0)) ∧ cur.size = K * 19 ∧ cur.toList.take (i * 19) = flE (l.take i) ∧ i + m ≤ K ∧ K ≤ maxLen ∧ Below W.heap.size W W' := by
  obtain ⟨i0, hi0, hz0, hz1, hz2⟩ := info_parts info_En
  have htk : (flE (l.take i)).length = i * 19 := by rw [flE_len (fun e he => hl0 e (List.mem_of_mem_take he)), List.length_take, Nat.min_eq_left hi]
  have hr := run_append_make (P := Tryz.prog) W 23 3 ty 44 .i64 i0 (.agg (eE noE)) Tryz.underlying23 Tryz.underlying3 hi0 hz0 ⟨g, 0, none⟩ i cap (flE (l.take i)) (by rw [hz1]; exact htk)
    (fun j v hj => hcells j v (by
      rw [flE_take hl0 i hi, List.getElem?_take] at hj
      split at hj
      · exact hj
      · cases hj)) m (by rw [hz1]; omega) (by rw [IntKind.wrap_i64]; omega) (by rw [hz2]; omega) hfull (by omega) (growslice_fits hfull (by rw [hz2]; omega))
  have hge := grownCap_ge W (i + m) cap 44
  have hle := grownCap_le_maxLen W (i + m) cap 44 (by simp only [maxLen]; omega)
  refine ⟨_, _, _, hr, heap_alloc_new W.drew _, ?_, ?_, hge, hle, ?_⟩
  · simp only [Array.size_append, List.size_toArray, size_zeroCells, htk]
    rw [show ((Value.agg (eE noE)).cells).size = 19 from eE_size ok_noE]
    omega
  · simp only [Array.toList_append, List.append_assoc]
    rw [← htk]
    exact List.take_left
  · exact below_alloc (below_drew1 (Below.refl _ _)) _
theorem wpList_append_make {ops : Array Oper} {rest : List Oper} {o : Oper} {a : Act} {W : World} {Q : Exit → Act → World → Prop} (hgd : o.guard = none) (d s : Operand)
    (ho : o.op = .call { callee := .builtin .append, args := #[d, s], argTypes := #[23, 3] }) (g cap i m : Nat) (l : List En) (hd : a.eval d = .slice (some ⟨g, 0, none⟩) i cap) (hs : a.eval s = .int .i64 (m : Int))
    (hl0 : okE l) (hi : i ≤ l.length) (hm0 : 0 < m) (hmm : m ≤ 1000001) (hfull : cap < i + m) (hsum : i + m ≤ 1000001) (hcells : ∀ j u, (flE l)[j]? = some u → W.cell? ((⟨g, 0, none⟩ : Addr).add j) = some u)
    (h : ∀ (K ng : Nat) (W' : World) (cur : Array Value), ng = W.heap.size → W'.heap[ng]? = some (.cells cur 44 (0, 0)) → cur.size = K * 19 → cur.toList.take (i * 19) = flE (l.take i) → i + m ≤ K → K ≤ maxLen → Below W.heap.size W W' → wpList Tryz.prog ops Q rest (a.put o.dst (.slice (some ⟨ng, 0, none⟩) (i + m) K)) W') :
    wpList Tryz.prog ops Q (o :: rest) a W := by
  obtain ⟨K, W', cur, hr, h1, h2, h3, h4, h5, h6⟩ := append_make_en W o.type g cap i m l hl0 hi hm0 hmm hfull hsum hcells
  exact wpList_append_runA W hgd d s _ _ ho _ _ hd hs hr (h K _ W' cur rfl h1 h2 h3 h4 h5 h6)
set_option maxHeartbeats 4000000 in
set_option maxRecDepth 100000 in
theorem ins_grow (base g cap i : Nat) (l : List En) (hl0 : okE l) (x : En) (hx : x.p.a.ok) (vb : Nat) (w : World) (hrow : w.ownsRow base 44 19 (.slice (some ⟨g, 0, none⟩) l.length cap) l.length (flE l))
    (hi : i < l.length) (hfull : cap < l.length + 1) (hv : w.heap[vb]? = some (.cells (eE x) 44 (0, 0))) (hl : l.length ≤ 1000000) (hb : base ≤ w.heap.size) :
    Calls Tryz.prog 47 #[.slice (some ⟨g, 0, none⟩) l.length cap, .int .i64 (i : Int), .slice (some ⟨vb, 0, none⟩) 1 1] w fun e w' =>
      ∃ v', e = .returned v' ∧ w'.ownsRow base 44 19 v' (l.length + 1) (flE (inE l i x)) ∧ w.grownBy w' (some g) := by
  have hcells := hrow.cells (g := g) rfl
  have hc0 := own_le hrow
  obtain ⟨n, hnl⟩ : ∃ n, l.length = n := ⟨_, rfl⟩
  rw [hnl] at hi hfull hl hc0
  obtain rfl : cap = n := by omega
  have HC := Aside0.mk hcells
  have HV := Aside0.mk hv
  have HL0 := Aside0.mk hl0
  have HX := Aside0.mk hx
  have HI := Aside0.mk (show i < cap ∧ cap ≤ 1000000 ∧ base ≤ w.heap.size ∧ l.length = cap from ⟨hi, hl, hb, hnl⟩)
  have hz2 : ¬ ((i : Int) = (cap : Int)) := by omega
  have hb1 : (0 : Int) ≤ (i : Int) + 1 := by omega
  have hin : i ≤ cap := by omega
  have htn : ((i : Int) + 1).toNat = i + 1 := by omega
  have hb4 : ¬ (cap = i) := by omega
  have hw3 : IntKind.i64.wrap ((i : Int) + 1) = (i : Int) + 1 := wrapE1K i (by omega)
  have hw1 : wrap64 ((i : Int) + 1) = (i : Int) + 1 := wrapE1 i (by omega)
  have hw2 : wrap64 ((cap : Int) + 1) = (cap : Int) + 1 := wrapE1 cap (by omega)
  have hw4 : wrap64 ((cap : Int) + 1 - (i : Int)) = ((cap + 1 - i : Nat) : Int) := by unfold wrap64; omega
  have mixed : Tryz.prog.follows Departure.mixedOrders = true := by kernel_rfl
  rw [hnl]
  clear hrow hcells hv hl0 hx hi hl hb hnl hfull hc0
  go_enter Tryz.func47, Tryz.ntmps47
  go_wp2_with (at_builtin; refine wpList_append_make rfl _ _ rfl g cap i (cap + 1 - i) l rfl ?qa HL0.out ?qb ?qc ?qd ?qe ?qf ?qg ?_)
  case qa => exact congrArg (Value.int .i64) hw4
  case qb => have := HI.out; omega
  case qc => have := HI.out; omega
  case qd => have := HI.out; omega
  case qe => have := HI.out; omega
  case qf => have := HI.out; omega
  case qg => exact HC.out
  intro K ng W1 cur1 hng h1 h2 h3 h4 h5 h6
  rw [show i + (cap + 1 - i) = cap + 1 by omega] at h4 ⊢
  have hlx := lE_len HX.out
  have hld : (flE (l.drop i)).length = (cap - i) * 19 := by rw [flE_len (fun e he => HL0.out e (List.mem_of_mem_drop he)), List.length_drop, HI.out.2.2.2]
  have hvb : vb < w.heap.size := (Array.getElem?_eq_some_iff.1 HV.out).1
  have hv1 : W1.heap[vb]? = some (.cells (eE x) 44 (0, 0)) := blk_below (blk_later HV.out) h6
  have hvg : vb ≠ ng := by rw [hng]; exact Nat.ne_of_lt (blk_lt (blk_later HV.out))
  obtain ⟨cur2, hc2⟩ : ∃ cur2 : Array Value, (cur1.toList.take (i * 19) ++ lE x ++ cur1.toList.drop (i * 19 + (lE x).length)).toArray = cur2 := ⟨_, rfl⟩
  have hcp1 : ∀ (W : World), W.heap = W1.heap → ∀ ty dc, (Builtin.copy_ #[23, 23] ty #[.slice (some ⟨ng, i * 19, none⟩) (cap + 1 - i) dc, .slice (some ⟨vb, 0, none⟩) 1 1]).run Tryz.prog W = .ok (goInt 1) (W.setRow ng cur2) := fun W hW ty dc =>
    (run_copy_wide W _ _ ty 44 19 ng (i * 19) (cap + 1 - i) dc ⟨vb, 0, none⟩ 1 1 cur1 44 (lE x) Tryz.underlying23 infoEn (by rw [hW]; exact h1) (by have : Nat.min 1 (cap + 1 - i) = 1 := Nat.min_eq_left (by omega); rw [this, hlx])
      (val_at (by rw [hW]; exact hv1))
      (by rw [h2, hlx]; omega) (lE_one x)).trans (by rw [hc2, show Nat.min 1 (cap + 1 - i) = 1 from Nat.min_eq_left (show 1 ≤ cap + 1 - i by omega)]; rfl)
  obtain ⟨W2, hW2⟩ : ∃ W2, W1.setRow ng cur2 = W2 := ⟨_, rfl⟩
  have hs2 : cur2.size = K * 19 := by
    rw [← hc2]
    simp only [List.size_toArray, List.length_append, List.length_take, List.length_drop, Array.length_toList, h2, hlx]
    omega
  have hh2 : W2.heap[ng]? = some (.cells cur2 44 (0, 0)) := by rw [← hW2]; exact setRow_heap W1 ng cur1 _ _ _ h1
  obtain ⟨cur3, hc3⟩ : ∃ cur3 : Array Value, (cur2.toList.take ((i + 1) * 19) ++ flE (l.drop i) ++ cur2.toList.drop ((i + 1) * 19 + (flE (l.drop i)).length)).toArray = cur3 := ⟨_, rfl⟩
  have hsrc : ∀ (W : World), W.heap = W2.heap → ∀ j v, (flE (l.drop i))[j]? = some v → W.cell? ((⟨g, i * 19, none⟩ : Addr).add j) = some v := fun W hW j v hj => by
    rw [Addr.add_lit]
    have hj2 : (flE l)[i * 19 + j]? = some v := by rw [flE_drop HL0.out i (by have := HI.out; omega)] at hj; rwa [List.getElem?_drop] at hj
    have h7 := HC.out (i * 19 + j) v hj2
    rw [add_plain] at h7
    have hgl : g < w.heap.size := World.block_lt_of_cell? w ⟨g, i * 19 + j, none⟩ h7
    rw [← h7]
    refine World.cell?_of_block ?_
    show W.heap[g]? = w.heap[g]?
    rw [hW, ← hW2, setRow_other W1 ng g _ (by rw [hng]; exact Nat.ne_of_lt hgl)]
    exact h6.block g hgl
  have hcp2 : ∀ (W : World), W.heap = W2.heap → ∀ ty dc sc, (Builtin.copy_ #[23, 23] ty #[.slice (some ⟨ng, (i + 1) * 19, none⟩) (cap - i) dc, .slice (some ⟨g, i * 19, none⟩) (cap - i) sc]).run Tryz.prog W = .ok (goInt (Nat.min (cap - i) (cap - i))) (W.setRow ng cur3) := fun W hW ty dc sc =>
    (run_copy_wide W _ _ ty 44 19 ng ((i + 1) * 19) (cap - i) dc ⟨g, i * 19, none⟩ (cap - i) sc cur2 44 (flE (l.drop i)) Tryz.underlying23 infoEn (by rw [hW]; exact hh2) (by rw [hld, show Nat.min (cap - i) (cap - i) = cap - i from Nat.min_self _])
      (hsrc W hW) (by rw [hld, hs2]; omega) (flE_one _)).trans (by rw [hc3])
  have hs3 : cur3.size = K * 19 := by
    rw [← hc3]
    simp only [List.size_toArray, List.length_append, List.length_take, List.length_drop, Array.length_toList, hs2, hld]
    omega
  have hlf : (flE (inE l i x)).length = (cap + 1) * 19 := by rw [flE_len (ok_inE HL0.out i HX.out), inE_length l i x (by have := HI.out; omega), HI.out.2.2.2]
  have ht3 : cur3.toList.take ((cap + 1) * 19) = flE (inE l i x) := by
    have e0 : cur2.toList = (cur1.toList.take (i * 19) ++ lE x) ++ cur1.toList.drop (i * 19 + (lE x).length) := by rw [← hc2]
    have e3 : (cur1.toList.take (i * 19) ++ lE x).length = (i + 1) * 19 := by rw [List.length_append, List.length_take, Array.length_toList, h2, hlx]; omega
    have e1 : cur2.toList.take ((i + 1) * 19) = cur1.toList.take (i * 19) ++ lE x := by rw [e0, ← e3, List.take_left]
    have e6 : cur3.toList = flE (inE l i x) ++ cur2.toList.drop ((i + 1) * 19 + (flE (l.drop i)).length) := by
      rw [← hc3, e1, h3, flE_inE HL0.out i (by have := HI.out; omega) x, flE_take HL0.out i (by have := HI.out; omega), flE_drop HL0.out i (by have := HI.out; omega)]
      simp only [List.append_assoc]
    rw [e6, ← hlf, List.take_left]
  have HF := Aside0.mk (show (flE (inE l i x)).length = (cap + 1) * 19 ∧ cap + 1 ≤ K ∧ K ≤ maxLen ∧ cur3.size = K * 19 ∧ cur3.toList.take ((cap + 1) * 19) = flE (inE l i x) from ⟨hlf, h4, h5, hs3, ht3⟩)
  have HNG := Aside0.mk (show ng = w.heap.size ∧ Below w.heap.size w W1 ∧ W1.setRow ng cur2 = W2 ∧ W2.heap[ng]? = some (.cells cur2 44 (0, 0)) from ⟨hng, h6, hW2, hh2⟩)
  have hb5 : ¬ (K = i) := by omega
  have hb6 : ¬ (K = i + 1) := by omega
  have hb7 : i + 1 ≤ cap + 1 := by omega
  have hb8 : i ≤ cap + 1 := by omega
  have hb9 : cap + 1 ≤ K := h4
  have hb10 : i + 1 ≤ K := by omega
  have hb11 : i ≤ K := by omega
  have hb12 : ¬ (cap = i + 1 - 1) := by omega
  clear hlf ht3 hs3 h1 h2 h3 h4 h5 h6 hng hW2 hh2 hc2 hc3 hlx hld hvb hv1 hvg hs2 hsrc
  go_wp2
  have hcp3 := hcp2 (W1.setRow ng cur2).drew (by rw [HNG.out.2.2.1]; rfl)
  go_region_law_o (refine step_copy_runA rfl _ _ 23 23 rfl _ _ (by simp [Act.eval, Act.put]) (by simp [Act.eval, Act.put]) (hcp3 _ _ _) ?_)
  go_wp2
  go_ret
  have hd : (W1.setRow ng cur2).drew.heap[ng]? = some (.cells cur2 44 (0, 0)) := by rw [HNG.out.2.2.1]; exact HNG.out.2.2.2
  refine ⟨_, rfl, ⟨HF.out.1, .inr ⟨ng, K, cur3, rfl, by rw [HNG.out.1]; exact HI.out.2.2.1, setRow_heap _ ng cur2 _ _ _ hd, HF.out.2.1, HF.out.2.2.1, HF.out.2.2.2.1, HF.out.2.2.2.2⟩⟩, ?_⟩
  have h6 := HNG.out.2.1
  exact ⟨h6.os, h6.tape, h6.output, by rw [size_setRowE]; show w.heap.size ≤ (W1.setRow ng cur2).heap.size; rw [size_setRowE]; exact h6.size, fun k hk _ => (setRow_other _ ng k _ (by rw [HNG.out.1]; omega)).trans ((setRow_other W1 ng k _ (by rw [HNG.out.1]; omega)).trans (h6.block k hk))⟩
/-- An entry is put in, wherever it goes. -/
theorem ins_all (base i : Nat) (l : List En) (hl0 : okE l) (x : En) (hx : x.p.a.ok) (v : Value) (vb : Nat) (w : World) (hrow : w.ownsRow base 44 19 v l.length (flE l)) (hi : i ≤ l.length)
    (hv : w.heap[vb]? = some (.cells (eE x) 44 (0, 0))) (hvg : some vb ≠ v.ownBlock) (hl : l.length ≤ 1000000) (hb : base ≤ w.heap.size) :
    Calls Tryz.prog 47 #[v, .int .i64 (i : Int), .slice (some ⟨vb, 0, none⟩) 1 1] w fun e w' =>
      ∃ v', e = .returned v' ∧ w'.ownsRow base 44 19 v' (l.length + 1) (flE (inE l i x)) ∧ w.grownBy w' v.ownBlock := by
  rcases hrow.2 with ⟨rfl, hn⟩ | ⟨g, cap, cur, rfl, h1, h2, h3, h4, h5, h6⟩
  · have hl1 : l = [] := List.length_eq_zero_iff.1 hn
    subst hl1
    obtain rfl : i = 0 := by simpa using hi
    refine (ins_nil base x hx vb w hv hb).mono ?_
    rintro e w' ⟨v', rfl, h1, h2⟩
    refine ⟨v', rfl, ?_, h2⟩
    have e : flE (inE [] 0 x) = lE x := by
      show lE x ++ [] = lE x
      rw [List.append_nil]
    rw [e]
    exact h1
  · have hvg' : vb ≠ g := fun e => hvg (by rw [e]; rfl)
    rcases Nat.lt_or_ge i l.length with h | h
    · rcases Nat.lt_or_ge cap (l.length + 1) with h7 | h7
      · exact ins_grow base g cap i l hl0 x hx vb w hrow h h7 hv hl hb
      · exact ins_shift base g cap i l hl0 x hx vb w hrow h h7 hv hvg' hl
    · obtain rfl : i = l.length := by omega
      exact ins_end base g cap l hl0 x hx vb w hrow hv hl hb
end Go.Proofs.YthdognlkacjkhaaGreatDoor.P
end
section
namespace Go.Proofs.YthdognlkacjkhaaGreatDoor.P
open Go.RowKit Go.Proofs.YthdognlkacjkhaaGreatDoorW.PrintWords Go.Proofs.YthdognlkacjkhaaGreatDoorW.PrintLast Go.Proofs.YthdognlkacjkhaaGreatDoorW.PrintMore
set_option linter.unusedVariables false
set_option linter.unusedSimpArgs false
def notEn (o : Obj) : Prop := ∀ cs fr, o ≠ .cells cs 44 fr
/-- All blocks but the table's own, and rows of entries from 'base' on, are as they were. -/
structure Chg (T base : Nat) (w w' : World) : Prop where
  os : w'.os = w.os
  tape : w'.tape = w.tape
  output : w'.output = w.output
  size : w.heap.size ≤ w'.heap.size
  block : ∀ k o, k ≠ T → w.heap[k]? = some o → (k < base ∨ notEn o) → w'.heap[k]? = some o
theorem chg_below {T base : Nat} {w w' : World} (h : Below w.heap.size w w') : Chg T base w w' := ⟨h.os, h.tape, h.output, h.size, fun k o _ ho _ => blk_below ho h⟩
theorem own_ne {w : World} {base n k : Nat} {v : Value} {xs : List Value} {o : Obj} (h : w.ownsRow base 44 19 v n xs) (ho : w.heap[k]? = some o) (hk : k < base ∨ notEn o) : some k ≠ v.ownBlock := by
  rcases h.2 with ⟨rfl, _⟩ | ⟨g, cap, cur, rfl, hb, hg, _⟩
  · intro e; cases e
  · intro e
    have e' : k = g := Option.some.inj e
    subst e'
    rcases hk with hk | hk
    · omega
    · rw [hg] at ho
      cases ho
      exact hk _ _ rfl
theorem own_some {w : World} {base n : Nat} {te : TypeId} {v : Value} {xs : List Value} (h : w.ownsRow base te 19 v (n + 1) xs) : ∃ g cap cur, v = .slice (some ⟨g, 0, none⟩) (n + 1) cap ∧ base ≤ g ∧ w.heap[g]? = some (.cells cur te (0, 0)) := by
  rcases h.2 with ⟨_, h0⟩ | ⟨g, cap, cur, rfl, hb, hg, _⟩
  · cases h0
  · exact ⟨g, cap, cur, rfl, hb, hg⟩
theorem chg_grown {T base n : Nat} {v : Value} {xs : List Value} {w w' : World} (hr : w.ownsRow base 44 19 v n xs) (h : w.grownBy w' v.ownBlock) : Chg T base w w' :=
  ⟨h.os, h.tape, h.output, h.size, fun k o _ ho hk => (h.block k (Array.getElem?_eq_some_iff.1 ho).1 (own_ne hr ho hk)).trans ho⟩
theorem chg_trans {T base : Nat} {a b c : World} (h : Chg T base a b) (k : Chg T base b c) : Chg T base a c :=
  ⟨k.os.trans h.os, k.tape.trans h.tape, k.output.trans h.output, Nat.le_trans h.size k.size, fun x o hn ho hx => k.block x o hn (h.block x o hn ho hx) hx⟩
theorem chg_tab {T base j : Nat} {w : World} {v : Value} : Chg T base w (w.setCell ⟨T, j, none⟩ v) :=
  ⟨rfl, rfl, rfl, by unfold World.setCell; simp, fun k o hn ho _ => (Below.heap_setCell w _ _ k hn).trans ho⟩
theorem chg_row {T base g j : Nat} {w : World} {v : Value} {cs : Array Value} {fr : Nat × Nat} (hb : base ≤ g) (hg : w.heap[g]? = some (.cells cs 44 fr)) : Chg T base w (w.setCell ⟨g, j, none⟩ v) :=
  ⟨rfl, rfl, rfl, by unfold World.setCell; simp, fun k o hn ho hk => (Below.heap_setCell w _ _ k (by
    intro e
    have e' : k = g := e
    subst e'
    rcases hk with hk | hk
    · omega
    · rw [hg] at ho
      cases ho
      exact hk _ _ rfl)).trans ho⟩
/-- All blocks but the table's own, and its row's, keep their shape. -/
def Shp (T : Nat) (sv : Value) (w w' : World) : Prop := ∀ k cs t, k ≠ T → some k ≠ sv.ownBlock → w.heap[k]? = some (.cells cs t (0, 0)) → ∃ cs', w'.heap[k]? = some (.cells cs' t (0, 0)) ∧ cs'.size = cs.size
theorem shp_cell {T g j : Nat} {sv v : Value} {w w' : World} (h : Shp T sv w w') : Shp T sv w (w'.setCell ⟨g, j, none⟩ v) := fun k cs t h1 h2 hk => by
  obtain ⟨cs', h3, h4⟩ := h k cs t h1 h2 hk
  by_cases hg : k = g
  · subst hg
    exact ⟨cs'.setIfInBounds j v, blk_put h3 j v rfl, by rw [Array.size_setIfInBounds, h4]⟩
  · exact ⟨cs', (Below.heap_setCell w' _ _ k hg).trans h3, h4⟩
theorem shp_grown {T : Nat} {sv : Value} {w w5 w6 : World} (h : Below w.heap.size w w5) (hg : w5.grownBy w6 sv.ownBlock) : Shp T sv w w6 := fun k cs t _ h2 hk => by
  have h3 := blk_below hk h
  exact ⟨cs, (hg.block k (Array.getElem?_eq_some_iff.1 h3).1 h2).trans h3, rfl⟩
section
variable {P : Program} {ops : Array Oper} {Q : Exit → Act → World → Prop} {md : Region.Mode} {S : World → Prop}
/-- In a region: the world as a letter of which so much is known. -/
theorem anyH_at {R : World → Prop} {fuel : Nat} {listed : Array Bool} {a : Act} {w : World} (hr : R w) (h : ∀ w' : World, R w' → wpAnyH P md ops Q S fuel listed a w') : wpAnyH P md ops Q S fuel listed a w := h w hr
end
/-- An entry's value is another one. -/
theorem flE_set {l : List En} (hl : okE l) {i : Nat} {e : En} (he : l[i]? = some e) (v : Int) : flE (l.set i ⟨e.p, v⟩) = (flE l).set (i * 19 + 18) (.int .i64 v) := by
  obtain ⟨hi, hie⟩ := List.getElem?_eq_some_iff.1 he
  have h1 : l = l.take i ++ e :: l.drop (i + 1) := by
    conv => lhs; rw [← List.take_append_drop i l, List.drop_eq_getElem_cons hi, hie]
  have hlt : (l.take i).length = i := by rw [List.length_take, Nat.min_eq_left (Nat.le_of_lt hi)]
  have h2 : l.set i ⟨e.p, v⟩ = l.take i ++ ⟨e.p, v⟩ :: l.drop (i + 1) := by
    conv => lhs; rw [h1]
    rw [List.set_append_right _ _ (by rw [hlt]; exact Nat.le_refl _), hlt, Nat.sub_self, List.set_cons_zero]
  have hft : (flE (l.take i)).length = i * 19 := by rw [flE_len (fun x hx => hl x (List.mem_of_mem_take hx)), hlt]
  have oe : e.p.a.ok := hl e (List.mem_of_getElem? he)
  have h3 : flE l = flE (l.take i) ++ (lE e ++ flE (l.drop (i + 1))) := by
    conv => lhs; rw [h1, flE_append, flE_cons]
  rw [h2, flE_append, flE_cons, h3, List.set_append_right _ _ (by rw [hft]; omega), hft, show i * 19 + 18 - i * 19 = 18 by omega, List.set_append_left _ _ (by rw [lE_len oe]; decide)]
  congr 2
  show lP e.p ++ [Value.int .i64 v] = (lP e.p ++ [Value.int .i64 e.v]).set 18 (.int .i64 v)
  rw [List.set_append_right _ _ (by rw [lP_len oe]; exact Nat.le_refl _), lP_len oe]
  rfl
theorem own_value {w : World} {base g n cap : Nat} {te : TypeId} {l : List En} (h : w.ownsRow base te 19 (.slice (some ⟨g, 0, none⟩) n cap) n (flE l)) (hl : okE l) {i : Nat} {e : En} (he : l[i]? = some e) (v : Int) :
    (w.setCell ⟨g, i * 19 + 18, none⟩ (.int .i64 v)).ownsRow base te 19 (.slice (some ⟨g, 0, none⟩) n cap) n (flE (l.set i ⟨e.p, v⟩)) := by
  have hs := flE_set hl he v
  refine ⟨by rw [hs, List.length_set]; exact h.1, ?_⟩
  rcases h.2 with ⟨h', _⟩ | ⟨g', cap', cur, h', hb, hh, hn, hm, hsz, ht⟩
  · cases h'
  · obtain ⟨rfl, rfl⟩ : g = g' ∧ cap = cap' := by
      injection h' with h1 h2 h3
      injection h1 with h1
      injection h1 with h1
      exact ⟨h1, h3⟩
    refine .inr ⟨g, cap, cur.setIfInBounds (i * 19 + 18) (.int .i64 v), rfl, hb, blk_put hh _ _ rfl, hn, hm, by rw [Array.size_setIfInBounds]; exact hsz, ?_⟩
    rw [Array.toList_setIfInBounds, List.take_set, ht, hs]
theorem own_far {w : World} {base n T j : Nat} {te : TypeId} {v u : Value} {xs : List Value} (h : w.ownsRow base te 19 v n xs) (hn : v.ownBlock ≠ some T) : (w.setCell ⟨T, j, none⟩ u).ownsRow base te 19 v n xs :=
  h.kept (row := some T) ⟨rfl, rfl, rfl, by unfold World.setCell; simp, fun k _ hk => Below.heap_setCell w _ _ k (fun e => hk (by rw [e]))⟩ (.inr hn)
theorem lE_v {e : En} (he : e.p.a.ok) : (lE e)[18]? = some (.int .i64 e.v) := by
  unfold lE
  rw [List.getElem?_append_right (by rw [lP_len he]; exact Nat.le_refl _), lP_len he]
  rfl
theorem inE_at (l : List En) (i : Nat) (x : En) (hi : i ≤ l.length) : (inE l i x)[i]? = some x := by
  unfold inE
  rw [List.getElem?_append_right (by rw [List.length_take, Nat.min_eq_left hi]; exact Nat.le_refl _), List.length_take, Nat.min_eq_left hi, Nat.sub_self]
  rfl
theorem set_new {l : List En} (hl : okE l) (hs : Sorted l) {p : Pf} (hp : p.a.ok) {i : Nat} (h : Found l p i false) (v : Int) : (inE l i ⟨p, 0⟩).set i ⟨(⟨p, 0⟩ : En).p, v⟩ = setE l p v := by
  obtain ⟨h1, h2, _⟩ := found_no hl hs hp h
  unfold setE inE
  have hlt : (l.take i).length = i := by rw [List.length_take, Nat.min_eq_left h.le]
  rw [h1, h2, List.set_append_right _ _ (by rw [hlt]; exact Nat.le_refl _), hlt, Nat.sub_self, List.set_cons_zero]
theorem set_old {l : List En} (hl : okE l) (hs : Sorted l) {p : Pf} (hp : p.a.ok) {i : Nat} (h : Found l p i true) {x : En} (hx : l[i]? = some x) (v : Int) : l.set i ⟨x.p, v⟩ = setE l p v := by
  obtain ⟨y, hy, hyp, h1, h2, _⟩ := found_yes hl hs hp h
  rw [hx] at hy
  cases hy
  obtain ⟨hi, hie⟩ := List.getElem?_eq_some_iff.1 hx
  have hlt : (l.take i).length = i := by rw [List.length_take, Nat.min_eq_left h.le]
  unfold setE
  rw [h1, h2, ← hyp]
  conv => lhs; rw [← List.take_append_drop i l, List.drop_eq_getElem_cons hi]
  rw [List.set_append_right _ _ (by rw [hlt]; exact Nat.le_refl _), hlt, Nat.sub_self, List.set_cons_zero]
theorem built_en16 (f n b0 b1 b2 b3 b4 b5 b6 b7 b8 b9 b10 b11 b12 b13 b14 b15 : Int) : Tryz.prog.built 44 [(0, .agg (eP ⟨⟨f, [b0, b1, b2, b3, b4, b5, b6, b7, b8, b9, b10, b11, b12, b13, b14, b15]⟩, n⟩))] = some (eE ⟨⟨⟨f, [b0, b1, b2, b3, b4, b5, b6, b7, b8, b9, b10, b11, b12, b13, b14, b15]⟩, n⟩, 0⟩) := by kernel_rfl
theorem built_en {p : Pf} (hp : p.a.ok) : Tryz.prog.built 44 [(0, .agg (eP p))] = some (eE ⟨p, 0⟩) := by
  obtain ⟨⟨f, bs⟩, n⟩ := p
  match bs, hp.1 with
  | [b0, b1, b2, b3, b4, b5, b6, b7, b8, b9, b10, b11, b12, b13, b14, b15], _ => exact built_en16 f n b0 b1 b2 b3 b4 b5 b6 b7 b8 b9 b10 b11 b12 b13 b14 b15
theorem fill_en16 (f n v b0 b1 b2 b3 b4 b5 b6 b7 b8 b9 b10 b11 b12 b13 b14 b15 : Int) : Instr.fill (fun i => some (i * 19, 19)) ((Array.range (1 * 19)).map ((Value.agg (eE noE)).cells[· % (Value.agg (eE noE)).cells.size]!)) [(0, .agg (eE ⟨⟨⟨f, [b0, b1, b2, b3, b4, b5, b6, b7, b8, b9, b10, b11, b12, b13, b14, b15]⟩, n⟩, v⟩))] = some (eE ⟨⟨⟨f, [b0, b1, b2, b3, b4, b5, b6, b7, b8, b9, b10, b11, b12, b13, b14, b15]⟩, n⟩, v⟩) := by kernel_rfl
theorem fill_en {e : En} (he : e.p.a.ok) : Instr.fill (fun i => some (i * 19, 19)) ((Array.range (1 * 19)).map ((Value.agg (eE noE)).cells[· % (Value.agg (eE noE)).cells.size]!)) [(0, .agg (eE e))] = some (eE e) := by
  obtain ⟨⟨⟨f, bs⟩, n⟩, v⟩ := e
  match bs, he.1 with
  | [b0, b1, b2, b3, b4, b5, b6, b7, b8, b9, b10, b11, b12, b13, b14, b15], _ => exact fill_en16 f n v b0 b1 b2 b3 b4 b5 b6 b7 b8 b9 b10 b11 b12 b13 b14 b15
set_option maxRecDepth 100000 in
theorem run_build_en {o : Oper} {a : Act} {w : World} {x : Operand} {p : Pf} (ho : o.op = .build 44 #[(0, x)]) (hx : a.eval x = .agg (eP p)) (hp : p.a.ok) : (execOp a.eval o).run Tryz.prog w = .ok (.value (.agg (eE ⟨p, 0⟩))) w := by
  have hb : Tryz.prog.built 44 ((#[(0, x)] : Array (Nat × Operand)).map fun (i, y) => (i, a.eval y)).toList = some (eE ⟨p, 0⟩) := by
    simp only [List.map_toArray, List.map_cons, List.map_nil, hx]
    exact built_en hp
  unfold execOp
  simp only [ho, Sem.run_bind, run_build w _ _ _ hb, Result.andThen_ok]
  simp
theorem wp_lit_en {o : Oper} {a : Act} {w : World} {K : Act → World → Prop} {Q : Exit → Act → World → Prop} (x : Operand) (ho : o.op = .buildSlice 23 1 #[(0, x)]) (e : En) (he : e.p.a.ok) (hx : a.eval x = .agg (eE e))
    (h : K (a.put o.dst (.slice (some ⟨w.heap.size, 0, none⟩) 1 1)) (w.alloc (.cells (eE e) 44))) : o.wp Tryz.prog a w K Q := by
  obtain ⟨i0, hi, hz0, hz1, hz2⟩ := info_parts info_En
  refine wp_buildSlice 23 44 1 _ ho (eE e) i0 (.agg (eE noE)) Tryz.underlying23 hi hz0 (by rw [hz1]; decide) (by rw [hz1]; decide) ?_ h
  rw [hz1]
  simp only [List.map_toArray, List.map_cons, List.map_nil, hx]
  exact fill_en he
set_option maxHeartbeats 8000000 in
set_option maxRecDepth 100000 in
theorem table_Set_no (T base : Nat) (st : Int) (sv : Value) (l : List En) (p : Pf) (hp : p.a.ok) (v : Int) (w : World) (hm : mayQ p = false) :
    Calls Tryz.prog 25 #[.pointer (some ⟨T, 0, none⟩), .agg (eP p), .int .i64 v] w fun r w' => r = .returned (.int .i64 1) ∧ Below w.heap.size w w' := by
  have HB := Aside0.mk (Below.refl w.heap.size w)
  have HP := Aside0.mk hp
  have HM := Aside0.mk hm
  clear hp hm
  go_enter Tryz.func25, Tryz.ntmps25
  go_wp2_with (first
    | ((with_reducible refine gate_dst (N := 4) rfl ?_); refine box_event ?hg (N := 4) ?hd (cs := eP p) (t := 42) ?hr ?_; (case hd => rfl); (case hg => rfl); (case hr => first | (go_simp; done) | (go_simp; rfl)); intro g4 hg w1 hbox hb; have HX := Aside0.mk hbox; replace HB := Aside0.mk (below_step (bel_later HB.out) hb); clear hb hg hbox)
    | ((with_reducible refine gate_dst (N := 9) rfl ?_); refine wpList_load_row rfl 42 (.tmp 4) rfl g4 rfl 42 (eP p) (0, 0) _ HX.out Tryz.underlying42 rfl (infoEP HP.out) ?_)
    | (go_at_call 40; refine (cidr_May p HP.out _).mono ?_; rintro r w2 ⟨rfl, hb⟩; rw [HM.out]; replace HB := Aside0.mk (below_step HB.out hb); clear hb))
  go_ret
  exact ⟨rfl, HB.out⟩
set_option maxHeartbeats 8000000 in
set_option maxRecDepth 100000 in
theorem table_Set_new' (T base : Nat) (st : Int) (sv : Value) (l : List En) (p : Pf) (hp : p.a.ok) (v : Int) (w : World) (ht : Tb w T base st sv l) (hs : Sorted l) (hn : l.length ≤ 1000) (hm : mayQ p = true) (hh : hasE l p = false) (hb0 : base ≤ w.heap.size) :
    Calls Tryz.prog 25 #[.pointer (some ⟨T, 0, none⟩), .agg (eP p), .int .i64 v] w fun r w' => r = .returned (.int .i64 0) ∧ (∃ sv', Tb w' T base st sv' (setE l p v)) ∧ Chg T base w w' ∧ Shp T sv w w' := by
  have HB := Aside0.mk (Below.refl w.heap.size w)
  have HP := Aside0.mk hp
  have HM := Aside0.mk hm
  have HT := Aside0.mk ht
  have HS := Aside0.mk hs
  have HN := Aside0.mk hn
  have HH := Aside0.mk hh
  have HB0 := Aside0.mk hb0
  clear hp hm ht hs hn hh hb0
  go_enter Tryz.func25, Tryz.ntmps25
  go_wp2_with (first
    | ((with_reducible refine gate_dst (N := 4) rfl ?_); refine box_event ?hg (N := 4) ?hd (cs := eP p) (t := 42) ?hr ?_; (case hd => rfl); (case hg => rfl); (case hr => first | (go_simp; done) | (go_simp; rfl)); intro g4 hg w1 hbox hb; have HX := Aside0.mk hbox; have HG4T := Aside0.mk (show g4 ≠ T by rw [hg]; exact Ne.symm (Nat.ne_of_lt (blk_lt (blk_later HT.out.blk)))); replace HT := Aside0.mk (tb_below HT.out (below_step (bel_later (Below.refl _ _)) hb)); replace HB := Aside0.mk (below_step (bel_later HB.out) hb); clear hb hg hbox)
    | ((with_reducible refine gate_dst (N := 9) rfl ?_); refine wpList_load_row rfl 42 (.tmp 4) rfl g4 rfl 42 (eP p) (0, 0) _ HX.out Tryz.underlying42 rfl (infoEP HP.out) ?_)
    | (go_at_call 40; refine (cidr_May p HP.out _).mono ?_; rintro r w2 ⟨rfl, hb⟩; rw [HM.out]; replace HT := Aside0.mk (tb_below HT.out hb); replace HX := Aside0.mk (blk_below HX.out hb); replace HB := Aside0.mk (below_step HB.out hb); clear hb)
    | ((with_reducible refine gate_dst (N := 14) rfl ?_); refine wpList_load_row rfl 42 (.tmp 4) rfl g4 rfl 42 (eP p) (0, 0) _ HX.out Tryz.underlying42 rfl (infoEP HP.out) ?_)
    | (go_at_call 46; refine (tab_at T base st sv l p HP.out _ HT.out HS.out (by have := HN.out; omega)).mono ?_; rintro r w3 ⟨rfl, hb⟩; rw [HH.out]; replace HT := Aside0.mk (tb_below HT.out hb); replace HX := Aside0.mk (blk_below HX.out hb); replace HB := Aside0.mk (below_step HB.out hb); clear hb))
  obtain ⟨i, hi⟩ : ∃ i, idxE l p = i := ⟨_, rfl⟩
  have HI := Aside0.mk hi
  have HFO := Aside0.mk (by have := found_pure HT.out.ok HS.out HP.out; rw [HH.out, hi] at this; exact this)
  rw [hi]
  clear hi
  obtain ⟨S, hS⟩ : ∃ S : World → Prop, S = fun w' => w'.heap[g4]? = some (.cells (eP p) 42 (0, 0)) := ⟨_, rfl⟩
  have HSx := Aside0.mk (show ∀ x : World, S x → x.heap[g4]? = some (.cells (eP p) 42 (0, 0)) by intro b h; rw [hS] at h; exact h)
  have HSy := Aside0.mk (show ∀ x : World, x.heap[g4]? = some (.cells (eP p) 42 (0, 0)) → S x by intro b h; rw [hS]; exact h)
  clear hS
  have s0 : S w3.drew := HSy.out _ (blk_later HX.out)
  refine wp_region_held_drew (S := S) (by kernel_rfl) s0 (fun _ => ?_)
  refine wpAnyH_take (i := 0) (v := .pointer (some ⟨T, 0, none⟩)) rfl (by kernel_rfl) (by kernel_rfl) (by kernel_rfl) (fun _ _ _ h => h) (Or.inl ⟨by kernel_rfl, fun w' h => by first | (go_simp; done) | (go_simp; rfl)⟩) s0 ?_
  (try simp only [Act.put, List.getElem_toArray, List.getElem_cons_succ, List.getElem_cons_zero, List.setIfInBounds_toArray, List.set_cons_zero, List.set_cons_succ])
  refine wpAnyH_take (i := 1) (v := .pointer (some ⟨T, 0, none⟩)) rfl (by kernel_rfl) (by kernel_rfl) (by kernel_rfl) (fun _ _ _ h => h) (Or.inl ⟨by kernel_rfl, fun w' h => by first | (go_simp; done) | (go_simp; rfl)⟩) s0 ?_
  (try simp only [Act.put, List.getElem_toArray, List.getElem_cons_succ, List.getElem_cons_zero, List.setIfInBounds_toArray, List.set_cons_zero, List.set_cons_succ])
  refine wpAnyH_take (i := 2) (v := .pointer (some ⟨T, 0, none⟩)) rfl (by kernel_rfl) (by kernel_rfl) (by kernel_rfl) (fun _ _ _ h => h) (Or.inl ⟨by kernel_rfl, fun w' h => by first | (go_simp; done) | (go_simp; rfl)⟩) s0 ?_
  (try simp only [Act.put, List.getElem_toArray, List.getElem_cons_succ, List.getElem_cons_zero, List.setIfInBounds_toArray, List.set_cons_zero, List.set_cons_succ])
  refine wpAnyH_take (i := 3) (v := .pointer (some ⟨T, 0, none⟩)) rfl (by kernel_rfl) (by kernel_rfl) (by kernel_rfl) (fun _ _ _ h => h) (Or.inl ⟨by kernel_rfl, fun w' h => by first | (go_simp; done) | (go_simp; rfl)⟩) s0 ?_
  (try simp only [Act.put, List.getElem_toArray, List.getElem_cons_succ, List.getElem_cons_zero, List.setIfInBounds_toArray, List.set_cons_zero, List.set_cons_succ])
  refine wpAnyH_take (i := 5) (v := .int .i64 (i : Int)) rfl (by kernel_rfl) (by kernel_rfl) (by kernel_rfl) (fun _ _ _ h => h) (Or.inl ⟨by kernel_rfl, fun w' h => by first | (go_simp; done) | (go_simp; rfl)⟩) s0 ?_
  (try simp only [Act.put, List.getElem_toArray, List.getElem_cons_succ, List.getElem_cons_zero, List.setIfInBounds_toArray, List.set_cons_zero, List.set_cons_succ])
  refine wpAnyH_take (i := 6) (v := .agg (eP p)) rfl ?q6b ?q6c ?q6d (fun _ _ _ h => h) ?q6e s0 ?q6f
  case q6b => kernel_rfl
  case q6c => kernel_rfl
  case q6d => kernel_rfl
  case q6e => exact yields_row (by kernel_rfl) 42 (.tmp 4) rfl g4 rfl 42 (eP p) (0, 0) _ (fun w' h => HSx.out w' h) Tryz.underlying42 rfl (infoEP HP.out)
  (try simp only [Act.put, List.getElem_toArray, List.getElem_cons_succ, List.getElem_cons_zero, List.setIfInBounds_toArray, List.set_cons_zero, List.set_cons_succ])
  refine wpAnyH_take (i := 7) (v := .agg (eE ⟨p, 0⟩)) rfl (by kernel_rfl) (by kernel_rfl) (by kernel_rfl) (fun _ _ _ h => h) (Or.inl ⟨by kernel_rfl, fun w' h => run_build_en rfl rfl HP.out⟩) s0 ?_
  (try simp only [Act.put, List.getElem_toArray, List.getElem_cons_succ, List.getElem_cons_zero, List.setIfInBounds_toArray, List.set_cons_zero, List.set_cons_succ])
  refine anyH_at (R := fun x => S x ∧ Tb x T base st sv l ∧ Below w.heap.size w x) ⟨s0, tb_below HT.out (bel_later (Below.refl _ _)), bel_later HB.out⟩ (fun w4 h4 => ?_)
  clear s0
  have s0 := h4.1
  have HT3 := Aside0.mk h4.2.1
  have HB3 := Aside0.mk h4.2.2
  clear h4
  have h0 : w4.cell? ⟨T, 0, none⟩ = some sv := blk_cell HT3.out.blk 0
  have HB4 := Aside0.mk (show Below w4.heap.size w4 (w4.alloc (.cells (eE ⟨p, 0⟩) 44)) from below_alloc (Below.refl _ _) _)
  have HT4 := Aside0.mk (tb_below HT3.out HB4.out)
  have HV4 := Aside0.mk (heap_alloc_new w4 (.cells (eE ⟨p, 0⟩) 44))
  have h1 : (w4.alloc (.cells (eE ⟨p, 0⟩) 44)).cell? ⟨T, 0, none⟩ = some sv := blk_cell HT4.out.blk 0
  have s4 : S (w4.alloc (.cells (eE ⟨p, 0⟩) 44)) := HSy.out _ (blk_below (HSx.out _ s0) HB4.out)
  refine wpAnyH_ready (rs := [4, 8]) (by kernel_rfl) (by simp) (AllReadyH.cons rfl (fun K hK => ?_) (AllReadyH.cons rfl (fun K hK => ?_) AllReadyH.nil))
  rw [if_pos (by kernel_rfl)]
  refine wp_value_run (v := sv) (w1 := w4) (by first | (go_simp; done) | (go_simp; rfl)) ?_
  refine hK.out _ _ s0 (fun _ => ?_)
  clear hK K
  (try simp only [Act.put, List.getElem_toArray, List.getElem_cons_succ, List.getElem_cons_zero, List.setIfInBounds_toArray, List.set_cons_zero, List.set_cons_succ])
  refine held_step (i := 8) (by kernel_rfl) rfl (by kernel_rfl) (fun K hK => ?_)
  refine wp_lit_en (.tmp 27) rfl ⟨p, 0⟩ HP.out rfl ?_
  refine hK.out _ _ s4 ?_
  clear hK K
  (try simp only [Act.put, List.getElem_toArray, List.getElem_cons_succ, List.getElem_cons_zero, List.setIfInBounds_toArray, List.set_cons_zero, List.set_cons_succ])
  rotate_left
  rw [if_pos (by kernel_rfl)]
  refine wp_lit_en (.tmp 27) rfl ⟨p, 0⟩ HP.out rfl ?_
  refine hK.out _ _ s4 (fun _ => ?_)
  clear hK K
  (try simp only [Act.put, List.getElem_toArray, List.getElem_cons_succ, List.getElem_cons_zero, List.setIfInBounds_toArray, List.set_cons_zero, List.set_cons_succ])
  refine held_step (i := 4) (by kernel_rfl) rfl (by kernel_rfl) (fun K hK => ?_)
  refine wp_value_run (v := sv) (w1 := w4.alloc (.cells (eE ⟨p, 0⟩) 44)) (by first | (go_simp; done) | (go_simp; rfl)) ?_
  refine hK.out _ _ s4 ?_
  clear hK K
  (try simp only [Act.put, List.getElem_toArray, List.getElem_cons_succ, List.getElem_cons_zero, List.setIfInBounds_toArray, List.set_cons_zero, List.set_cons_succ])
  all_goals
    refine anyH_at (R := fun x => S x ∧ Tb x T base st sv l ∧ Below w.heap.size w x ∧ x.heap[w4.heap.size]? = some (.cells (eE ⟨p, 0⟩) 44 (0, 0))) ⟨s4, HT4.out, below_step HB3.out HB4.out, HV4.out⟩ (fun w5 h5 => ?_)
    clear h0 h1 s0 s4
    have s0 := h5.1
    have HT5 := Aside0.mk h5.2.1
    have HB5 := Aside0.mk h5.2.2.1
    have HV5 := Aside0.mk h5.2.2.2
    clear h5
    have HVN := Aside0.mk (show some w4.heap.size ≠ sv.ownBlock by
      intro e
      have := (HT3.out.row.lt _ e.symm).2
      omega)
    refine held_step (i := 9) (by kernel_rfl) rfl (by kernel_rfl) (fun K hK => ?_)
    go_simp
    refine (ins_all base i l HT5.out.ok ⟨p, 0⟩ HP.out sv w4.heap.size w5 HT5.out.row HFO.out.le HV5.out HVN.out (by have := HN.out; omega) (Nat.le_trans HB0.out (below_size HB5.out))).mono ?_
    rintro r w6 ⟨v', rfl, hrow, hgr⟩
    obtain ⟨g, cap, cur, rfl, hbg, hgg⟩ := own_some hrow
    have HGG := Aside0.mk (show base ≤ g ∧ w6.heap[g]? = some (.cells cur 44 (0, 0)) from ⟨hbg, hgg⟩)
    clear hbg hgg
    have HRW := Aside0.mk hrow
    have HC6 := Aside0.mk (chg_grown (T := T) HT5.out.row hgr)
    have HTB := Aside0.mk ((hgr.block T (Array.getElem?_eq_some_iff.1 HT5.out.blk).1 (own_ne HT5.out.row HT5.out.blk (.inr (fun cs fr e => by cases e)))).trans HT5.out.blk)
    have s1 : S w6 := HSy.out _ (HC6.out.block g4 _ HG4T.out (HSx.out _ s0) (.inr (fun cs fr e => by cases e)))
    have HP6 := Aside0.mk (shp_grown (T := T) HB5.out hgr)
    clear hrow hgr
    refine hK.out _ _ s1 ?_
    clear hK K
    (try simp only [Act.put, List.getElem_toArray, List.getElem_cons_succ, List.getElem_cons_zero, List.setIfInBounds_toArray, List.set_cons_zero, List.set_cons_succ])
    refine wpAnyH_take (i := 10) (v := .pointer (some ⟨T, 0, none⟩)) rfl (by kernel_rfl) (by kernel_rfl) (by kernel_rfl) (fun _ _ _ h => h) (Or.inl ⟨by kernel_rfl, fun w' h => by first | (go_simp; done) | (go_simp; rfl)⟩) s1 ?_
    (try simp only [Act.put, List.getElem_toArray, List.getElem_cons_succ, List.getElem_cons_zero, List.setIfInBounds_toArray, List.set_cons_zero, List.set_cons_succ])
    refine wpAnyH_take (i := 11) (v := .pointer (some ⟨T, 0, none⟩)) rfl (by kernel_rfl) (by kernel_rfl) (by kernel_rfl) (fun _ _ _ h => h) (Or.inl ⟨by kernel_rfl, fun w' h => by first | (go_simp; done) | (go_simp; rfl)⟩) s1 ?_
    (try simp only [Act.put, List.getElem_toArray, List.getElem_cons_succ, List.getElem_cons_zero, List.setIfInBounds_toArray, List.set_cons_zero, List.set_cons_succ])
    have hx : w6.cell? ⟨T, 0, none⟩ = some sv := blk_cell HTB.out 0
    have hfz := blk_frozen HTB.out 0
    have HS2 := Aside0.mk (show S (w6.setCell ⟨T, 0, none⟩ (.slice (some ⟨g, 0, none⟩) (l.length + 1) cap)) from HSy.out _ ((Below.heap_setCell w6 _ _ g4 HG4T.out).trans (HSx.out _ s1)))
    refine held_step (i := 12) (by kernel_rfl) rfl (by kernel_rfl) (fun K hK => ?_)
    go_wp2
    refine hK.out _ _ HS2.out ?_
    clear hK K
    (try simp only [Act.put, List.getElem_toArray, List.getElem_cons_succ, List.getElem_cons_zero, List.setIfInBounds_toArray, List.set_cons_zero, List.set_cons_succ])
    refine wpAnyH_done (by kernel_rfl) ?_ _
    clear s0 s1 hx hfz
    have HGT := Aside0.mk (show T ≠ g by
      intro e
      subst e
      have h1 := HTB.out
      rw [HGG.out.2] at h1
      cases h1)
    have HT7 := Aside0.mk (blk_put HTB.out 0 (.slice (some ⟨g, 0, none⟩) (l.length + 1) cap) rfl)
    have HR7 := Aside0.mk (own_far HRW.out (u := .slice (some ⟨g, 0, none⟩) (l.length + 1) cap) (j := 0) (fun e => HGT.out (Option.some.inj e).symm))
    have HG7 := Aside0.mk ((Below.heap_setCell w6 ⟨T, 0, none⟩ (.slice (some ⟨g, 0, none⟩) (l.length + 1) cap) g (Ne.symm HGT.out)).trans HGG.out.2)
    have HC7 := Aside0.mk (chg_trans (chg_trans (chg_below (T := T) (base := base) HB5.out) HC6.out) (chg_tab (j := 0) (v := .slice (some ⟨g, 0, none⟩) (l.length + 1) cap)))
    have HP7 := Aside0.mk (shp_cell (g := T) (j := 0) (v := .slice (some ⟨g, 0, none⟩) (l.length + 1) cap) HP6.out)
    generalize w6.setCell ⟨T, 0, none⟩ (.slice (some ⟨g, 0, none⟩) (l.length + 1) cap) = w7 at HT7 HR7 HG7 HC7 HP7 ⊢
    have HE := Aside0.mk (show (inE l i ⟨p, 0⟩)[i]? = some ⟨p, 0⟩ from inE_at l i ⟨p, 0⟩ HFO.out.le)
    have HOI := Aside0.mk (ok_inE HT5.out.ok i (x := ⟨p, 0⟩) HP.out)
    have HSE := Aside0.mk (set_new HT5.out.ok HS.out HP.out HFO.out v)
    have h0 : w7.cell? ⟨T, 0, none⟩ = some (.slice (some ⟨g, 0, none⟩) (l.length + 1) cap) := blk_cell HT7.out 0
    have hidx := fun w => idx_en g (l.length + 1) cap i w (by have := HFO.out.le; omega)
    have hx : w7.cell? ⟨g, i * 19 + 18, none⟩ = some (.int .i64 0) := by
      have := HR7.out.cells (g := g) rfl (i * 19 + 18) _ (flE_get HOI.out HE.out (lE_v HP.out))
      rwa [add_plain] at this
    have hfz := blk_frozen HG7.out (i * 19 + 18)
    go_wp2
    go_ret
    have hv := own_value HR7.out HOI.out HE.out v
    refine ⟨rfl, ⟨.slice (some ⟨g, 0, none⟩) (l.length + 1) cap, (Below.heap_setCell w7 _ _ T HGT.out).trans HT7.out, ?_, ok_setE HT5.out.ok HP.out v⟩, chg_trans HC7.out (chg_row HGG.out.1 HG7.out), shp_cell HP7.out⟩
    rw [← HSE.out, List.length_set, inE_length l i _ HFO.out.le]
    exact hv
theorem table_Set_new (T base : Nat) (st : Int) (sv : Value) (l : List En) (p : Pf) (hp : p.a.ok) (v : Int) (w : World) (ht : Tb w T base st sv l) (hs : Sorted l) (hn : l.length ≤ 1000) (hm : mayQ p = true) (hh : hasE l p = false) (hb0 : base ≤ w.heap.size) :
    Calls Tryz.prog 25 #[.pointer (some ⟨T, 0, none⟩), .agg (eP p), .int .i64 v] w fun r w' => r = .returned (.int .i64 0) ∧ (∃ sv', Tb w' T base st sv' (setE l p v)) ∧ Chg T base w w' :=
  (table_Set_new' T base st sv l p hp v w ht hs hn hm hh hb0).mono fun r w' ⟨h1, h2, h3, _⟩ => ⟨h1, h2, h3⟩
theorem row_blk {w : World} {base g n cap : Nat} {te : TypeId} {xs : List Value} (h : w.ownsRow base te 19 (.slice (some ⟨g, 0, none⟩) n cap) n xs) : ∃ cur, w.heap[g]? = some (.cells cur te (0, 0)) := by
  rcases h.2 with ⟨h', _⟩ | ⟨g', cap', cur, h', _, hh, _⟩
  · cases h'
  · injection h' with h1 h2 h3
    injection h1 with h1
    injection h1 with h1
    subst h1
    exact ⟨cur, hh⟩
theorem row_frozen {w : World} {base g n cap j : Nat} {te : TypeId} {xs : List Value} (h : w.ownsRow base te 19 (.slice (some ⟨g, 0, none⟩) n cap) n xs) : w.frozen? ⟨g, j, none⟩ = false := by
  obtain ⟨cur, hg⟩ := row_blk h
  exact blk_frozen hg j
set_option maxHeartbeats 8000000 in
set_option maxRecDepth 100000 in
theorem table_Set_old (T base : Nat) (st : Int) (sv : Value) (l : List En) (p : Pf) (hp : p.a.ok) (v : Int) (w : World) (ht : Tb w T base st sv l) (hs : Sorted l) (hn : l.length ≤ 1000) (hm : mayQ p = true) (hh : hasE l p = true) (hb0 : base ≤ w.heap.size) :
    Calls Tryz.prog 25 #[.pointer (some ⟨T, 0, none⟩), .agg (eP p), .int .i64 v] w fun r w' => r = .returned (.int .i64 0) ∧ (∃ sv', Tb w' T base st sv' (setE l p v)) ∧ Chg T base w w' := by
  have HB := Aside0.mk (Below.refl w.heap.size w)
  have HP := Aside0.mk hp
  have HM := Aside0.mk hm
  have HT := Aside0.mk ht
  have HS := Aside0.mk hs
  have HN := Aside0.mk hn
  have HH := Aside0.mk hh
  have HB0 := Aside0.mk hb0
  clear hp hm ht hs hn hh hb0
  have HFO0 := Aside0.mk (found_pure HT.out.ok HS.out HP.out)
  obtain ⟨i, hi⟩ : ∃ i, idxE l p = i := ⟨_, rfl⟩
  have HI := Aside0.mk hi
  have HFO := Aside0.mk (by have := HFO0.out; rw [HH.out, hi] at this; exact this)
  obtain ⟨x, hx, hxp, _, _, _, _, _⟩ := found_yes HT.out.ok HS.out HP.out HFO.out
  have HXX := Aside0.mk hx
  have HOX := Aside0.mk (HT.out.ok x (List.mem_of_getElem? hx))
  have HSE := Aside0.mk (set_old HT.out.ok HS.out HP.out HFO.out hx v)
  obtain ⟨m, hm1⟩ : ∃ m, l.length = m + 1 := ⟨l.length - 1, by have := (List.getElem?_eq_some_iff.1 hx).1; omega⟩
  have hrow0 := HT.out.row
  rw [hm1] at hrow0
  obtain ⟨g, cap, cur0, hsv, hbg, hgg0⟩ := own_some hrow0
  rw [← hm1] at hsv
  subst hsv
  have hidx := fun w => idx_en g l.length cap i w (List.getElem?_eq_some_iff.1 hx).1
  have HBG := Aside0.mk hbg
  clear hx hxp hrow0 hgg0 hbg hi hm1
  go_enter Tryz.func25, Tryz.ntmps25
  go_wp2_with (first
    | ((with_reducible refine gate_dst (N := 4) rfl ?_); refine box_event ?hg (N := 4) ?hd (cs := eP p) (t := 42) ?hr ?_; (case hd => rfl); (case hg => rfl); (case hr => first | (go_simp; done) | (go_simp; rfl)); intro g4 hg w1 hbox hb; have HX := Aside0.mk hbox; have HG4T := Aside0.mk (show g4 ≠ T by rw [hg]; exact Ne.symm (Nat.ne_of_lt (blk_lt (blk_later HT.out.blk)))); replace HT := Aside0.mk (tb_below HT.out (below_step (bel_later (Below.refl _ _)) hb)); replace HB := Aside0.mk (below_step (bel_later HB.out) hb); clear hb hg hbox)
    | ((with_reducible refine gate_dst (N := 9) rfl ?_); refine wpList_load_row rfl 42 (.tmp 4) rfl g4 rfl 42 (eP p) (0, 0) _ HX.out Tryz.underlying42 rfl (infoEP HP.out) ?_)
    | (go_at_call 40; refine (cidr_May p HP.out _).mono ?_; rintro r w2 ⟨rfl, hb⟩; rw [HM.out]; replace HT := Aside0.mk (tb_below HT.out hb); replace HX := Aside0.mk (blk_below HX.out hb); replace HB := Aside0.mk (below_step HB.out hb); clear hb)
    | ((with_reducible refine gate_dst (N := 14) rfl ?_); refine wpList_load_row rfl 42 (.tmp 4) rfl g4 rfl 42 (eP p) (0, 0) _ HX.out Tryz.underlying42 rfl (infoEP HP.out) ?_)
    | (go_at_call 46; refine (tab_at T base st _ l p HP.out _ HT.out HS.out (by have := HN.out; omega)).mono ?_; rintro r w3 ⟨rfl, hb⟩; rw [HH.out, HI.out]; replace HT := Aside0.mk (tb_below HT.out hb); replace HX := Aside0.mk (blk_below HX.out hb); replace HB := Aside0.mk (below_step HB.out hb); have h0 : w3.cell? ⟨T, 0, none⟩ = some (.slice (some ⟨g, 0, none⟩) l.length cap) := blk_cell HT.out.blk 0; have hx : w3.cell? ⟨g, i * 19 + 18, none⟩ = some (.int .i64 x.v) := (by (have := HT.out.row.cells (g := g) rfl (i * 19 + 18) _ (flE_get HT.out.ok HXX.out (lE_v HOX.out))); rwa [add_plain] at this); have hfz : w3.frozen? ⟨g, i * 19 + 18, none⟩ = false := row_frozen HT.out.row; clear hb))
  go_ret
  have hv := own_value HT.out.row HT.out.ok HXX.out v
  have hne : T ≠ g := by
    intro e
    subst e
    obtain ⟨cur, hg⟩ := row_blk HT.out.row
    rw [HT.out.blk] at hg
    cases hg
  obtain ⟨cur, hg⟩ := row_blk HT.out.row
  refine ⟨rfl, ⟨.slice (some ⟨g, 0, none⟩) l.length cap, (Below.heap_setCell w3 _ _ T hne).trans HT.out.blk, ?_, ok_setE HT.out.ok HP.out v⟩, chg_trans (chg_below HB.out) (chg_row HBG.out hg)⟩
  rw [← HSE.out, List.length_set]
  exact hv
/-- A prefix's value is set, if it may be. -/
theorem table_Set (T base : Nat) (st : Int) (sv : Value) (l : List En) (p : Pf) (hp : p.a.ok) (v : Int) (w : World) (ht : Tb w T base st sv l) (hs : Sorted l) (hn : l.length ≤ 1000) (hb0 : base ≤ w.heap.size) :
    Calls Tryz.prog 25 #[.pointer (some ⟨T, 0, none⟩), .agg (eP p), .int .i64 v] w fun r w' => r = .returned (.int .i64 (if mayQ p = true then 0 else 1)) ∧ (∃ sv', Tb w' T base st sv' (if mayQ p = true then setE l p v else l)) ∧ Chg T base w w' := by
  cases hm : mayQ p
  · refine (table_Set_no T base st sv l p hp v w hm).mono ?_
    rintro r w' ⟨rfl, hb⟩
    exact ⟨rfl, ⟨sv, tb_below ht hb⟩, chg_below hb⟩
  · cases hh : hasE l p
    · exact (table_Set_new T base st sv l p hp v w ht hs hn hm hh hb0).mono (fun r w' h => h)
    · exact (table_Set_old T base st sv l p hp v w ht hs hn hm hh hb0).mono (fun r w' h => h)
end Go.Proofs.YthdognlkacjkhaaGreatDoor.P
end
section
namespace Go.Proofs.YthdognlkacjkhaaGreatDoor.P
open Go.RowKit Go.Shelf Go.Proofs.YthdognlkacjkhaaGreatDoorW.PrintWords Go.Proofs.YthdognlkacjkhaaGreatDoorW.PrintLast Go.Proofs.YthdognlkacjkhaaGreatDoorW.PrintMore
set_option linter.unusedVariables false
set_option linter.unusedSimpArgs false
end Go.Proofs.YthdognlkacjkhaaGreatDoor.P
end
section
namespace Go.Proofs.YthdognlkacjkhaaGreatDoor.P
open Go.RowKit Go.Proofs.YthdognlkacjkhaaGreatDoorW.PrintWords Go.Proofs.YthdognlkacjkhaaGreatDoorW.PrintLast Go.Proofs.YthdognlkacjkhaaGreatDoorW.PrintMore
set_option linter.unusedVariables false
set_option linter.unusedSimpArgs false

theorem below_grown {B : Nat} {a w w' : World} {o : Option Nat} (h : Below B a w) (hg : w.grownBy w' o) (ho : ∀ k, o = some k → B ≤ k) (hB : B ≤ a.heap.size) : Below B a w' :=
  ⟨hg.os.trans h.os, hg.tape.trans h.tape, hg.output.trans h.output, Nat.le_trans h.size hg.size, fun k hk => (hg.block k (by have := h.size; omega) (fun e => by have := ho k e.symm; omega)).trans (h.block k hk)⟩
theorem own_below {w w' : World} {base n : Nat} {te : TypeId} {v : Value} {xs : List Value} (h : w.ownsRow base te 19 v n xs) (hb : Below w.heap.size w w') : w'.ownsRow base te 19 v n xs :=
  h.kept (row := none) ⟨hb.os, hb.tape, hb.output, hb.size, fun k hk _ => hb.block k hk⟩ (by cases v.ownBlock <;> simp)
theorem info_Er : (Tryz.prog.info? 52).map (fun i => (i.zero, i.size, i.bytes)) = some (some (.agg (eE noE)), 19, 40) := by kernel_rfl
theorem infoEr6 {e : En} (h : e.p.a.ok) : (Tryz.prog.info? 52).map (·.size) = some (eE e).size := by rw [eE_size h]; exact infoEr
theorem wp_lit_er {ops : Array Oper} {rest : List Oper} {o : Oper} {a : Act} {w : World} {Q : Exit → Act → World → Prop} (hgd : o.guard = none) (x : Operand) (ho : o.op = .buildSlice 25 1 #[(0, x)]) (e : En) (he : e.p.a.ok) (hx : a.eval x = .agg (eE e))
    (h : ∀ (vb : Nat) (w' : World), w'.heap[vb]? = some (.cells (eE e) 52 (0, 0)) → Below w.heap.size w w' → wpList Tryz.prog ops Q rest (a.put o.dst (.slice (some ⟨vb, 0, none⟩) 1 1)) w') : wpList Tryz.prog ops Q (o :: rest) a w := by
  obtain ⟨i0, hi, hz0, hz1, hz2⟩ := info_parts info_Er
  refine wpList_buildSlice hgd 25 52 1 _ ho (eE e) i0 (.agg (eE noE)) Tryz.underlying25 hi hz0 (by rw [hz1]; decide) (by rw [hz1]; decide) ?_ (h _ _ (heap_alloc_new w _) (below_alloc (Below.refl _ _) _))
  rw [hz1]
  simp only [List.map_toArray, List.map_cons, List.map_nil, hx]
  exact fill_en he
theorem drop_step_no {l : List En} {p : Pf} {i : Nat} {e : En} (he : l[i]? = some e) (hd : e.p = p) : dropE (l.take (i + 1)) p = dropE (l.take i) p := by
  unfold dropE
  rw [List.take_add_one, he, List.filter_append]
  simp [hd]
theorem drop_step_yes {l : List En} {p : Pf} {i : Nat} {e : En} (he : l[i]? = some e) (hd : ¬ e.p = p) : dropE (l.take (i + 1)) p = dropE (l.take i) p ++ [e] := by
  unfold dropE
  rw [List.take_add_one, he, List.filter_append]
  simp [hd]
theorem drop_less (l : List En) (p : Pf) : decide ((dropE l p).length < l.length) = hasE l p := by
  unfold dropE hasE
  rw [Bool.eq_iff_iff, decide_eq_true_eq, List.any_eq_true]
  constructor
  · intro h
    by_cases hn : ∀ e ∈ l, (!decide (e.p = p)) = true
    · rw [List.filter_eq_self.2 hn] at h
      exact absurd h (Nat.lt_irrefl _)
    · simp only [Classical.not_forall] at hn
      obtain ⟨e, he, h2⟩ := hn
      exact ⟨e, he, by simpa using h2⟩
  · rintro ⟨e, he, h2⟩
    have h3 : e ∉ l.filter (fun e => !decide (e.p = p)) := fun h4 => by
      have := (List.mem_filter.1 h4).2
      rw [h2] at this
      cases this
    have h4 := List.length_filter_le (fun e : En => !decide (e.p = p)) l
    rcases Nat.lt_or_ge (l.filter (fun e => !decide (e.p = p))).length l.length with h5 | h5
    · exact h5
    · have h6 : (l.filter (fun e => !decide (e.p = p))) = l := List.filter_sublist.eq_of_length (Nat.le_antisymm h4 h5)
      rw [h6] at h3
      exact absurd he h3
theorem drop_room {l : List En} {p : Pf} {i n : Nat} (hl : okE l) (hi : i ≤ n) (hln : l.length = n) (hn : n ≤ 1000) : (dropE (l.take i) p).length + 1 ≤ maxLen ∧ ((dropE (l.take i) p).length + 1) * 40 ≤ 140737488355328 := by
  have h1 : (dropE (l.take i) p).length ≤ 1000 := by
    refine Nat.le_trans (List.length_filter_le _ _) ?_
    rw [List.length_take]
    omega
  constructor
  · simp only [maxLen]; omega
  · omega
theorem er_ne {w : World} {base n k : Nat} {v : Value} {xs : List Value} {o : Obj} {te : TypeId} (h : w.ownsRow base te 19 v n xs) (ho : w.heap[k]? = some o) (hk : ∀ cs fr, o ≠ .cells cs te fr) : some k ≠ v.ownBlock := by
  rcases h.2 with ⟨rfl, _⟩ | ⟨g, cap, cur, rfl, hb, hg, _⟩
  · intro e; cases e
  · intro e
    have e' : k = g := Option.some.inj e
    subst e'
    rw [hg] at ho
    cases ho
    exact hk _ _ rfl
set_option maxHeartbeats 8000000 in
set_option maxRecDepth 100000 in
theorem ref06_Drop (A : Option Addr) (n cap G : Nat) (l : List En) (hl : okE l) (p : Pf) (hp : p.a.ok) (w : World) (hrd : Rd w 25 A n cap G l) (hn : n ≤ 1000) :
    Calls Tryz.prog 44 #[.slice A n cap, .agg (eP p)] w fun r w' => ∃ v', r = .returned (.tuple #[v', .bool (hasE l p)]) ∧ w'.ownsRow w.heap.size 52 19 v' (dropE l p).length (flE (dropE l p)) ∧ Below w.heap.size w w' := by
  have HB := Aside0.mk (Below.refl w.heap.size w)
  have HP := Aside0.mk hp
  have HL := Aside0.mk hl
  have HRD := Aside0.mk hrd
  have HN := Aside0.mk hn
  obtain ⟨i0, hi0, hz0, hz1, hz2⟩ := info_parts info_Er
  clear hp hl hrd hn
  go_enter Tryz.func44, Tryz.ntmps44
  go_wp2_with (first
    | ((with_reducible refine gate_dst (N := 3) rfl ?_); refine box_event ?hg (N := 3) ?hd (cs := eP p) (t := 42) ?hr ?_; (case hd => rfl); (case hg => rfl); (case hr => first | (go_simp; done) | (go_simp; rfl)); intro g3 hg w1 hbox hb; have HX := Aside0.mk hbox; replace HB := Aside0.mk (below_step (bel_later HB.out) hb); clear hb hg hbox))
  go_loopw [6, 7] (fun v6 v7 wr => ∃ i : Nat, v7 = .int .i64 (i : Int) ∧ Aside0 (i ≤ n) ∧ Aside0 (wr.ownsRow w.heap.size 52 19 v6 (dropE (l.take i) p).length (flE (dropE (l.take i) p))) ∧ Aside0 (wr.heap[g3]? = some (.cells (eP p) 42 (0, 0)) ∧ Below w.heap.size w wr)) (fun _ v7 _ => n - (intOf v7).toNat)
  case atStart => exact ⟨0, rfl, ⟨Nat.zero_le _⟩, ⟨World.ownsRow_nil _ _ _ _⟩, ⟨HX.out, HB.out⟩⟩
  case round =>
    obtain ⟨i, rfl, HI, HO, HE⟩ := hrel
    clear HX HB
    have HX := Aside0.mk HE.out.1
    have HB := Aside0.mk HE.out.2
    clear HE
    by_cases hlt : i < n
    · have c0 : decide ((i : Int) < (n : Int)) = true := decide_eq_true (by omega)
      have c1 : decide (i < n) = true := decide_eq_true hlt
      obtain ⟨e, he⟩ : ∃ e, l[i]? = some e := ⟨l[i]'(by have := HRD.out.len; omega), List.getElem?_eq_getElem _⟩
      have HEE := Aside0.mk he
      have HOE := Aside0.mk (HL.out e (List.mem_of_getElem? he))
      have hidx := fun w => HRD.out.idx w i hlt
      have HLT := Aside0.mk hlt
      have e4 : wrap64 ((i : Int) + 1) = ((i + 1 : Nat) : Int) := wrap_sm1 i (by have := HN.out; omega)
      have HE4 := Aside0.mk e4
      have HR := Aside0.mk ((rd_below HRD.out HB.out).at_ i e he)
      clear hlt he
      by_cases hd : e.p = p
      · have HRUN := Aside0.mk (fun w : World => (eq_pf 9996 e.p p HOE.out HP.out w).trans (by rw [decide_eq_true hd]) : ∀ w : World, (Op.equalIn 10000 42 (.agg (eP e.p)) (.agg (eP p))).run Tryz.prog w = .ok true w)
        have HDS := Aside0.mk (drop_step_no HEE.out hd)
        clear hd
        go_wp2
        obtain ⟨S, hS⟩ : ∃ S : World → Prop, S = fun w' => w'.heap[g3]? = some (.cells (eP p) 42 (0, 0)) ∧ w'.rangeAt G (i * 19) (lE e) := ⟨_, rfl⟩
        have HSx := Aside0.mk (show ∀ x : World, S x → x.heap[g3]? = some (.cells (eP p) 42 (0, 0)) ∧ x.rangeAt G (i * 19) (lE e) by intro b h; rw [hS] at h; exact h)
        have s0 : S wr.drew := by rw [hS]; exact ⟨blk_later HX.out, range_below HR.out (bel_later (Below.refl _ _))⟩
        clear hS
        refine wp_region_held_drew (S := S) (by kernel_rfl) s0 (fun _ => ?_)
        refine anyH_at (R := fun x => S x ∧ Below wr.heap.size wr x) ⟨s0, bel_later (Below.refl _ _)⟩ (fun w5 h5 => ?_)
        clear s0
        have s0 := h5.1
        have HD5 := Aside0.mk h5.2
        clear h5
        refine wpAnyH_take (i := 0) (v := .slice A n cap) rfl (by kernel_rfl) (by kernel_rfl) (by kernel_rfl) (fun _ _ _ h => h) (Or.inl ⟨by kernel_rfl, fun w' h => by first | (go_simp; done) | (go_simp; rfl)⟩) s0 ?_
        (try simp only [Act.put, List.getElem_toArray, List.getElem_cons_succ, List.getElem_cons_zero, List.setIfInBounds_toArray, List.set_cons_zero, List.set_cons_succ])
        refine wpAnyH_take (i := 1) (v := .int .i64 (i : Int)) rfl (by kernel_rfl) (by kernel_rfl) (by kernel_rfl) (fun _ _ _ h => h) (Or.inl ⟨by kernel_rfl, fun w' h => by first | (go_simp; done) | (go_simp; rfl)⟩) s0 ?_
        (try simp only [Act.put, List.getElem_toArray, List.getElem_cons_succ, List.getElem_cons_zero, List.setIfInBounds_toArray, List.set_cons_zero, List.set_cons_succ])
        refine wpAnyH_take (i := 2) (v := .pointer (some ⟨G, i * 19, none⟩)) rfl (by kernel_rfl) (by kernel_rfl) (by kernel_rfl) (fun _ _ _ h => h) (Or.inl ⟨by kernel_rfl, fun w' h => by have hf := hidx w'; first | (go_simp; done) | (go_simp; rfl)⟩) s0 ?_
        (try simp only [Act.put, List.getElem_toArray, List.getElem_cons_succ, List.getElem_cons_zero, List.setIfInBounds_toArray, List.set_cons_zero, List.set_cons_succ])
        refine wpAnyH_take (i := 3) (v := .pointer (some ⟨G, i * 19, none⟩)) rfl (by kernel_rfl) (by kernel_rfl) (by kernel_rfl) (fun _ _ _ h => h) (Or.inl ⟨by kernel_rfl, fun w' h => by first | (go_simp; done) | (go_simp; rfl)⟩) s0 ?_
        (try simp only [Act.put, List.getElem_toArray, List.getElem_cons_succ, List.getElem_cons_zero, List.setIfInBounds_toArray, List.set_cons_zero, List.set_cons_succ])
        refine wpAnyH_take (i := 4) (v := .agg (lP e.p).toArray) rfl ?ma4b ?ma4c ?ma4d (fun _ _ _ h => h) ?ma4e s0 ?ma4f
        case ma4b => kernel_rfl
        case ma4c => kernel_rfl
        case ma4d => kernel_rfl
        case ma4e =>
          refine yieldsIf_load_mid ?ma4g 42 (.tmp 17) ?ma4h G (i * 19) ?ma4i (lP e.p) _ ?ma4j Tryz.underlying42 ?ma4k (infoEP HOE.out)
          case ma4g => kernel_rfl
          case ma4h => kernel_rfl
          case ma4i => kernel_rfl
          case ma4k => kernel_rfl
          case ma4j => exact fun w' h => part_pf (HSx.out w' h).2
        (try simp only [Act.put, List.getElem_toArray, List.getElem_cons_succ, List.getElem_cons_zero, List.setIfInBounds_toArray, List.set_cons_zero, List.set_cons_succ])
        refine wpAnyH_take (i := 5) (v := .agg (eP p)) rfl ?qa5b ?qa5c ?qa5d (fun _ _ _ h => h) ?qa5e s0 ?qa5f
        case qa5b => kernel_rfl
        case qa5c => kernel_rfl
        case qa5d => kernel_rfl
        case qa5e => exact yields_row (by kernel_rfl) 42 (.tmp 3) rfl g3 rfl 42 (eP p) (0, 0) _ (fun w' h => (HSx.out w' h).1) Tryz.underlying42 rfl (infoEP HP.out)
        (try simp only [Act.put, List.getElem_toArray, List.getElem_cons_succ, List.getElem_cons_zero, List.setIfInBounds_toArray, List.set_cons_zero, List.set_cons_succ])
        refine wpAnyH_take (i := 6) (v := .bool false) rfl (by kernel_rfl) (by kernel_rfl) (by kernel_rfl) (fun _ _ _ h => h) (Or.inl ⟨by kernel_rfl, fun w' h => run_neq_op (r := true) rfl rfl rfl (by kernel_rfl) (HRUN.out w')⟩) s0 ?_
        (try simp only [Act.put, List.getElem_toArray, List.getElem_cons_succ, List.getElem_cons_zero, List.setIfInBounds_toArray, List.set_cons_zero, List.set_cons_succ])
        refine wpAnyH_done (by kernel_rfl) ?_ _
        have HX5 := Aside0.mk (HSx.out _ s0).1
        have HR5 := Aside0.mk (HSx.out _ s0).2
        have HB5 := Aside0.mk (below_step HB.out HD5.out)
        clear s0
        have HO5 := Aside0.mk (own_below HO.out HD5.out)
        go_wp2
        go_roundw
        case rel => exact ⟨i + 1, (by first | rfl | exact congrArg (Value.int .i64) HE4.out), ⟨HLT.out⟩, ⟨by rw [HDS.out]; exact HO5.out⟩, ⟨HX5.out, HB5.out⟩⟩
        case measure => exact measureA n i _ (by first | rfl | exact HE4.out) HLT.out
      · have HRUN := Aside0.mk (fun w : World => (eq_pf 9996 e.p p HOE.out HP.out w).trans (by rw [decide_eq_false hd]) : ∀ w : World, (Op.equalIn 10000 42 (.agg (eP e.p)) (.agg (eP p))).run Tryz.prog w = .ok false w)
        have HDS := Aside0.mk (drop_step_yes HEE.out hd)
        clear hd
        go_wp2
        obtain ⟨S, hS⟩ : ∃ S : World → Prop, S = fun w' => w'.heap[g3]? = some (.cells (eP p) 42 (0, 0)) ∧ w'.rangeAt G (i * 19) (lE e) := ⟨_, rfl⟩
        have HSx := Aside0.mk (show ∀ x : World, S x → x.heap[g3]? = some (.cells (eP p) 42 (0, 0)) ∧ x.rangeAt G (i * 19) (lE e) by intro b h; rw [hS] at h; exact h)
        have s0 : S wr.drew := by rw [hS]; exact ⟨blk_later HX.out, range_below HR.out (bel_later (Below.refl _ _))⟩
        clear hS
        refine wp_region_held_drew (S := S) (by kernel_rfl) s0 (fun _ => ?_)
        refine anyH_at (R := fun x => S x ∧ Below wr.heap.size wr x) ⟨s0, bel_later (Below.refl _ _)⟩ (fun w5 h5 => ?_)
        clear s0
        have s0 := h5.1
        have HD5 := Aside0.mk h5.2
        clear h5
        refine wpAnyH_take (i := 0) (v := .slice A n cap) rfl (by kernel_rfl) (by kernel_rfl) (by kernel_rfl) (fun _ _ _ h => h) (Or.inl ⟨by kernel_rfl, fun w' h => by first | (go_simp; done) | (go_simp; rfl)⟩) s0 ?_
        (try simp only [Act.put, List.getElem_toArray, List.getElem_cons_succ, List.getElem_cons_zero, List.setIfInBounds_toArray, List.set_cons_zero, List.set_cons_succ])
        refine wpAnyH_take (i := 1) (v := .int .i64 (i : Int)) rfl (by kernel_rfl) (by kernel_rfl) (by kernel_rfl) (fun _ _ _ h => h) (Or.inl ⟨by kernel_rfl, fun w' h => by first | (go_simp; done) | (go_simp; rfl)⟩) s0 ?_
        (try simp only [Act.put, List.getElem_toArray, List.getElem_cons_succ, List.getElem_cons_zero, List.setIfInBounds_toArray, List.set_cons_zero, List.set_cons_succ])
        refine wpAnyH_take (i := 2) (v := .pointer (some ⟨G, i * 19, none⟩)) rfl (by kernel_rfl) (by kernel_rfl) (by kernel_rfl) (fun _ _ _ h => h) (Or.inl ⟨by kernel_rfl, fun w' h => by have hf := hidx w'; first | (go_simp; done) | (go_simp; rfl)⟩) s0 ?_
        (try simp only [Act.put, List.getElem_toArray, List.getElem_cons_succ, List.getElem_cons_zero, List.setIfInBounds_toArray, List.set_cons_zero, List.set_cons_succ])
        refine wpAnyH_take (i := 3) (v := .pointer (some ⟨G, i * 19, none⟩)) rfl (by kernel_rfl) (by kernel_rfl) (by kernel_rfl) (fun _ _ _ h => h) (Or.inl ⟨by kernel_rfl, fun w' h => by first | (go_simp; done) | (go_simp; rfl)⟩) s0 ?_
        (try simp only [Act.put, List.getElem_toArray, List.getElem_cons_succ, List.getElem_cons_zero, List.setIfInBounds_toArray, List.set_cons_zero, List.set_cons_succ])
        refine wpAnyH_take (i := 4) (v := .agg (lP e.p).toArray) rfl ?mb4b ?mb4c ?mb4d (fun _ _ _ h => h) ?mb4e s0 ?mb4f
        case mb4b => kernel_rfl
        case mb4c => kernel_rfl
        case mb4d => kernel_rfl
        case mb4e =>
          refine yieldsIf_load_mid ?mb4g 42 (.tmp 17) ?mb4h G (i * 19) ?mb4i (lP e.p) _ ?mb4j Tryz.underlying42 ?mb4k (infoEP HOE.out)
          case mb4g => kernel_rfl
          case mb4h => kernel_rfl
          case mb4i => kernel_rfl
          case mb4k => kernel_rfl
          case mb4j => exact fun w' h => part_pf (HSx.out w' h).2
        (try simp only [Act.put, List.getElem_toArray, List.getElem_cons_succ, List.getElem_cons_zero, List.setIfInBounds_toArray, List.set_cons_zero, List.set_cons_succ])
        refine wpAnyH_take (i := 5) (v := .agg (eP p)) rfl ?qb5b ?qb5c ?qb5d (fun _ _ _ h => h) ?qb5e s0 ?qb5f
        case qb5b => kernel_rfl
        case qb5c => kernel_rfl
        case qb5d => kernel_rfl
        case qb5e => exact yields_row (by kernel_rfl) 42 (.tmp 3) rfl g3 rfl 42 (eP p) (0, 0) _ (fun w' h => (HSx.out w' h).1) Tryz.underlying42 rfl (infoEP HP.out)
        (try simp only [Act.put, List.getElem_toArray, List.getElem_cons_succ, List.getElem_cons_zero, List.setIfInBounds_toArray, List.set_cons_zero, List.set_cons_succ])
        refine wpAnyH_take (i := 6) (v := .bool true) rfl (by kernel_rfl) (by kernel_rfl) (by kernel_rfl) (fun _ _ _ h => h) (Or.inl ⟨by kernel_rfl, fun w' h => run_neq_op (r := false) rfl rfl rfl (by kernel_rfl) (HRUN.out w')⟩) s0 ?_
        (try simp only [Act.put, List.getElem_toArray, List.getElem_cons_succ, List.getElem_cons_zero, List.setIfInBounds_toArray, List.set_cons_zero, List.set_cons_succ])
        refine wpAnyH_done (by kernel_rfl) ?_ _
        have HX5 := Aside0.mk (HSx.out _ s0).1
        have HR5 := Aside0.mk (HSx.out _ s0).2
        have HB5 := Aside0.mk (below_step HB.out HD5.out)
        clear s0
        have HO5 := Aside0.mk (own_below HO.out HD5.out)
        go_wp2_with (first
          | ((with_reducible refine gate_dst (N := 25) rfl ?_); refine wpList_load_mid rfl 52 (.tmp 24) rfl G (i * 19) rfl (lE e) _ HR5.out Tryz.underlying52 rfl (infoEr6 HOE.out) ?_)
          | ((with_reducible refine gate_dst (N := 26) rfl ?_); refine wp_lit_er rfl (.tmp 25) rfl e HOE.out rfl ?_; intro vb w6 hvb hb6; have HO6 := Aside0.mk (own_below HO5.out hb6); have HV6 := Aside0.mk (val_at hvb); have HX6 := Aside0.mk (blk_below HX5.out hb6); have HB6 := Aside0.mk (below_step HB5.out hb6); clear hvb hb6)
          | (at_builtin; refine wpList_append_own _ rfl _ _ 25 rfl w.heap.size 52 i0 (.agg (eE noE)) 19 40 Tryz.underlying25 hi0 hz0 hz1 hz2 (eE_size ok_noE) (by decide) _ _ _ rfl HO6.out ⟨vb, 0, none⟩ 1 1 (lE e) rfl (by rw [lE_len HOE.out]) HV6.out (lE_one e) (drop_room HL.out HI.out HRD.out.len HN.out).1 (drop_room HL.out HI.out HRD.out.len HN.out).2 (below_size HB6.out) ?_))
        intro v' w7 hown hgrow hnil
        have HB7 := Aside0.mk (below_grown HB6.out hgrow (fun k hk => (HO6.out.lt k hk).1) (Nat.le_refl _))
        have HX7 := Aside0.mk ((hgrow.block g3 (Array.getElem?_eq_some_iff.1 HX6.out).1 (er_ne HO6.out HX6.out (by intro cs fr e; cases e))).trans HX6.out)
        have HO7 := Aside0.mk hown
        clear hown hgrow hnil
        go_wp2
        go_roundw
        case rel => exact ⟨i + 1, (by first | rfl | exact congrArg (Value.int .i64) HE4.out), ⟨HLT.out⟩, ⟨by rw [HDS.out, List.length_append, flE_append]; simpa [flE] using HO7.out⟩, ⟨HX7.out, HB7.out⟩⟩
        case measure => exact measureA n i _ (by first | rfl | exact HE4.out) HLT.out
    · have c0 : decide ((i : Int) < (n : Int)) = false := decide_eq_false (by omega)
      have c1 : decide (i < n) = false := decide_eq_false hlt
      have hin : i = n := by have := HI.out; omega
      have HD := Aside0.mk (show l.take i = l by rw [hin, ← HRD.out.len, List.take_length])
      rw [HD.out] at HO
      have HLS := Aside0.mk (drop_less l p)
      rw [HRD.out.len] at HLS
      obtain ⟨A', cap', G', hv6, _, _⟩ := rd_of_row HO.out (ok_dropE HL.out p) 25 (fun g n cap i w hi => idx_er g n cap i w hi) 0
      subst hv6
      clear hlt hin
      go_wp2
      go_ret2
      exact ⟨_, by rw [← HLS.out]; first | rfl | simp, HO.out, HB.out⟩
end Go.Proofs.YthdognlkacjkhaaGreatDoor.P
end
