/-
  slices.Insert of one entry where there is no room; wherever it goes.
-/
import Derived.Test.YthjhbhgfckaklaaArrW
namespace Go.Proofs.Ythjhbhgfckaklaa.P
open Go.RowKit Go.Shelf Go.Proofs.YthjhbhgfckaklaaW.PrintWords Go.Proofs.YthjhbhgfckaklaaW.PrintLast Go.Proofs.YthjhbhgfckaklaaW.PrintMore
set_option linter.unusedVariables false
set_option linter.unusedSimpArgs false
theorem wpList_append_runA {P : Program} (w : World) {ops : Array Oper} {rest : List Oper} {o : Oper} {a : Act} {Q : Exit → Act → World → Prop} (hgd : o.guard = none) (d s : Operand) (t t' : TypeId)
    (ho : o.op = .call { callee := .builtin .append, args := #[d, s], argTypes := #[t, t'] }) (v u : Value) (hd : a.eval d = v) (hs : a.eval s = u) {v' : Value} {w' : World}
    (hr : (Builtin.append_ #[t, t'] o.type #[v, u]).run P w = .ok v' w') (h : wpList P ops Q rest (a.put o.dst v') w') : wpList P ops Q (o :: rest) a w :=
  wpList_plain hgd fun _ hK => by
    unfold Oper.wp execOp
    simp only [ho, resolve, invoke, builtin, Sem.run_bind, Sem.run_pure, Result.andThen_ok, List.map_toArray, List.map_cons, List.map_nil, hd, hs, hr]
    exact hK _ _ h
theorem append_make_en (W : World) (ty : TypeId) (g cap i m : Nat) (l : List En) (hl0 : okE l) (hi : i ≤ l.length) (hm0 : 0 < m) (hmm : m ≤ 1000001) (hfull : cap < i + m) (hsum : i + m ≤ 1000001)
    (hcells : ∀ j u, (flE l)[j]? = some u → W.cell? ((⟨g, 0, none⟩ : Addr).add j) = some u) :
    ∃ (K : Nat) (W' : World) (cur : Array Value), (Builtin.append_ #[50, 3] ty #[.slice (some ⟨g, 0, none⟩) i cap, .int .i64 (m : Int)]).run Try.prog W = .ok (.slice (some ⟨W.heap.size, 0, none⟩) (i + m) K) W' ∧
      W'.heap[W.heap.size]? = some (.cells cur 42 (0, 0)) ∧ cur.size = K * 19 ∧ cur.toList.take (i * 19) = flE (l.take i) ∧ i + m ≤ K ∧ K ≤ maxLen ∧ Below W.heap.size W W' := by
  obtain ⟨i0, hi0, hz0, hz1, hz2⟩ := info_parts info_En
  have htk : (flE (l.take i)).length = i * 19 := by rw [flE_len (fun e he => hl0 e (List.mem_of_mem_take he)), List.length_take, Nat.min_eq_left hi]
  have hr := run_append_make (P := Try.prog) W 50 3 ty 42 .i64 i0 (.agg (eE noE)) Try.underlying50 Try.underlying3 hi0 hz0 ⟨g, 0, none⟩ i cap (flE (l.take i)) (by rw [hz1]; exact htk)
    (fun j v hj => hcells j v (by
      rw [flE_take hl0 i hi, List.getElem?_take] at hj
      split at hj
      · exact hj
      · cases hj)) m (by rw [hz1]; omega) (by rw [IntKind.wrap_i64]; omega) (by rw [hz2]; omega) hfull (by omega) (growslice_fits hfull (by rw [hz2]; omega))
  have hge := grownCap_ge W (i + m) cap 42
  have hle := grownCap_le_maxLen W (i + m) cap 42 (by simp only [maxLen]; omega)
  refine ⟨_, _, _, hr, heap_alloc_new W.drew _, ?_, ?_, hge, hle, ?_⟩
  · simp only [Array.size_append, List.size_toArray, size_zeroCells, htk]
    rw [show ((Value.agg (eE noE)).cells).size = 19 from eE_size ok_noE]
    omega
  · simp only [Array.toList_append, List.append_assoc]
    rw [← htk]
    exact List.take_left
  · exact below_alloc (below_drew1 (Below.refl _ _)) _
theorem wpList_append_make {ops : Array Oper} {rest : List Oper} {o : Oper} {a : Act} {W : World} {Q : Exit → Act → World → Prop} (hgd : o.guard = none) (d s : Operand)
    (ho : o.op = .call { callee := .builtin .append, args := #[d, s], argTypes := #[50, 3] }) (g cap i m : Nat) (l : List En) (hd : a.eval d = .slice (some ⟨g, 0, none⟩) i cap) (hs : a.eval s = .int .i64 (m : Int))
    (hl0 : okE l) (hi : i ≤ l.length) (hm0 : 0 < m) (hmm : m ≤ 1000001) (hfull : cap < i + m) (hsum : i + m ≤ 1000001) (hcells : ∀ j u, (flE l)[j]? = some u → W.cell? ((⟨g, 0, none⟩ : Addr).add j) = some u)
    (h : ∀ (K ng : Nat) (W' : World) (cur : Array Value), ng = W.heap.size → W'.heap[ng]? = some (.cells cur 42 (0, 0)) → cur.size = K * 19 → cur.toList.take (i * 19) = flE (l.take i) → i + m ≤ K → K ≤ maxLen → Below W.heap.size W W' → wpList Try.prog ops Q rest (a.put o.dst (.slice (some ⟨ng, 0, none⟩) (i + m) K)) W') :
    wpList Try.prog ops Q (o :: rest) a W := by
  obtain ⟨K, W', cur, hr, h1, h2, h3, h4, h5, h6⟩ := append_make_en W o.type g cap i m l hl0 hi hm0 hmm hfull hsum hcells
  exact wpList_append_runA W hgd d s _ _ ho _ _ hd hs hr (h K _ W' cur rfl h1 h2 h3 h4 h5 h6)
set_option maxHeartbeats 4000000 in
set_option maxRecDepth 100000 in
theorem ins_grow (base g cap i : Nat) (l : List En) (hl0 : okE l) (x : En) (hx : x.p.a.ok) (vb : Nat) (w : World) (hrow : w.ownsRow base 42 19 (.slice (some ⟨g, 0, none⟩) l.length cap) l.length (flE l))
    (hi : i < l.length) (hfull : cap < l.length + 1) (hv : w.heap[vb]? = some (.cells (eE x) 42 (0, 0))) (hl : l.length ≤ 1000000) (hb : base ≤ w.heap.size) :
    Calls Try.prog 50 #[.slice (some ⟨g, 0, none⟩) l.length cap, .int .i64 (i : Int), .slice (some ⟨vb, 0, none⟩) 1 1] w fun e w' =>
      ∃ v', e = .returned v' ∧ w'.ownsRow base 42 19 v' (l.length + 1) (flE (inE l i x)) ∧ w.grownBy w' (some g) := by
  have hcells := hrow.cells (g := g) rfl
  have hc0 := own_le hrow
  obtain ⟨n, hnl⟩ : ∃ n, l.length = n := ⟨_, rfl⟩
  rw [hnl] at hi hfull hl hc0
  obtain rfl : cap = n := by omega
  have HC := Aside0.mk hcells
  have HV := Aside0.mk hv
  have HL0 := Aside0.mk hl0
  have HX := Aside0.mk hx
  have HI := Aside0.mk (show i < cap ∧ cap ≤ 1000000 ∧ base ≤ w.heap.size ∧ l.length = cap from ⟨hi, hl, hb, hnl⟩)
  have hz2 : ¬ ((i : Int) = (cap : Int)) := by omega
  have hb1 : (0 : Int) ≤ (i : Int) + 1 := by omega
  have hin : i ≤ cap := by omega
  have htn : ((i : Int) + 1).toNat = i + 1 := by omega
  have hb4 : ¬ (cap = i) := by omega
  have hw3 : IntKind.i64.wrap ((i : Int) + 1) = (i : Int) + 1 := wrapE1K i (by omega)
  have hw1 : wrap64 ((i : Int) + 1) = (i : Int) + 1 := wrapE1 i (by omega)
  have hw2 : wrap64 ((cap : Int) + 1) = (cap : Int) + 1 := wrapE1 cap (by omega)
  have hw4 : wrap64 ((cap : Int) + 1 - (i : Int)) = ((cap + 1 - i : Nat) : Int) := by unfold wrap64; omega
  have mixed : Try.prog.follows Departure.mixedOrders = true := by kernel_rfl
  rw [hnl]
  clear hrow hcells hv hl0 hx hi hl hb hnl hfull hc0
  go_enter Try.func50, Try.ntmps50
  go_wp2_with (at_builtin; refine wpList_append_make rfl _ _ rfl g cap i (cap + 1 - i) l rfl ?qa HL0.out ?qb ?qc ?qd ?qe ?qf ?qg ?_)
  case qa => exact congrArg (Value.int .i64) hw4
  case qb => have := HI.out; omega
  case qc => have := HI.out; omega
  case qd => have := HI.out; omega
  case qe => have := HI.out; omega
  case qf => have := HI.out; omega
  case qg => exact HC.out
  intro K ng W1 cur1 hng h1 h2 h3 h4 h5 h6
  rw [show i + (cap + 1 - i) = cap + 1 by omega] at h4 ⊢
  have hlx := lE_len HX.out
  have hld : (flE (l.drop i)).length = (cap - i) * 19 := by rw [flE_len (fun e he => HL0.out e (List.mem_of_mem_drop he)), List.length_drop, HI.out.2.2.2]
  have hvb : vb < w.heap.size := (Array.getElem?_eq_some_iff.1 HV.out).1
  have hv1 : W1.heap[vb]? = some (.cells (eE x) 42 (0, 0)) := blk_below (blk_later HV.out) h6
  have hvg : vb ≠ ng := by rw [hng]; exact Nat.ne_of_lt (blk_lt (blk_later HV.out))
  obtain ⟨cur2, hc2⟩ : ∃ cur2 : Array Value, (cur1.toList.take (i * 19) ++ lE x ++ cur1.toList.drop (i * 19 + (lE x).length)).toArray = cur2 := ⟨_, rfl⟩
  have hcp1 : ∀ (W : World), W.heap = W1.heap → ∀ ty dc, (Builtin.copy_ #[50, 50] ty #[.slice (some ⟨ng, i * 19, none⟩) (cap + 1 - i) dc, .slice (some ⟨vb, 0, none⟩) 1 1]).run Try.prog W = .ok (goInt 1) (W.setRow ng cur2) := fun W hW ty dc =>
    (run_copy_wide W _ _ ty 42 19 ng (i * 19) (cap + 1 - i) dc ⟨vb, 0, none⟩ 1 1 cur1 42 (lE x) Try.underlying50 infoEn (by rw [hW]; exact h1) (by have : Nat.min 1 (cap + 1 - i) = 1 := Nat.min_eq_left (by omega); rw [this, hlx])
      (val_at (by rw [hW]; exact hv1))
      (by rw [h2, hlx]; omega) (lE_one x)).trans (by rw [hc2, show Nat.min 1 (cap + 1 - i) = 1 from Nat.min_eq_left (show 1 ≤ cap + 1 - i by omega)]; rfl)
  obtain ⟨W2, hW2⟩ : ∃ W2, W1.setRow ng cur2 = W2 := ⟨_, rfl⟩
  have hs2 : cur2.size = K * 19 := by
    rw [← hc2]
    simp only [List.size_toArray, List.length_append, List.length_take, List.length_drop, Array.length_toList, h2, hlx]
    omega
  have hh2 : W2.heap[ng]? = some (.cells cur2 42 (0, 0)) := by rw [← hW2]; exact setRow_heap W1 ng cur1 _ _ _ h1
  obtain ⟨cur3, hc3⟩ : ∃ cur3 : Array Value, (cur2.toList.take ((i + 1) * 19) ++ flE (l.drop i) ++ cur2.toList.drop ((i + 1) * 19 + (flE (l.drop i)).length)).toArray = cur3 := ⟨_, rfl⟩
  have hsrc : ∀ (W : World), W.heap = W2.heap → ∀ j v, (flE (l.drop i))[j]? = some v → W.cell? ((⟨g, i * 19, none⟩ : Addr).add j) = some v := fun W hW j v hj => by
    rw [Addr.add_lit]
    have hj2 : (flE l)[i * 19 + j]? = some v := by rw [flE_drop HL0.out i (by have := HI.out; omega)] at hj; rwa [List.getElem?_drop] at hj
    have h7 := HC.out (i * 19 + j) v hj2
    rw [add_plain] at h7
    have hgl : g < w.heap.size := World.block_lt_of_cell? w ⟨g, i * 19 + j, none⟩ h7
    rw [← h7]
    refine World.cell?_of_block ?_
    show W.heap[g]? = w.heap[g]?
    rw [hW, ← hW2, setRow_other W1 ng g _ (by rw [hng]; exact Nat.ne_of_lt hgl)]
    exact h6.block g hgl
  have hcp2 : ∀ (W : World), W.heap = W2.heap → ∀ ty dc sc, (Builtin.copy_ #[50, 50] ty #[.slice (some ⟨ng, (i + 1) * 19, none⟩) (cap - i) dc, .slice (some ⟨g, i * 19, none⟩) (cap - i) sc]).run Try.prog W = .ok (goInt (Nat.min (cap - i) (cap - i))) (W.setRow ng cur3) := fun W hW ty dc sc =>
    (run_copy_wide W _ _ ty 42 19 ng ((i + 1) * 19) (cap - i) dc ⟨g, i * 19, none⟩ (cap - i) sc cur2 42 (flE (l.drop i)) Try.underlying50 infoEn (by rw [hW]; exact hh2) (by rw [hld, show Nat.min (cap - i) (cap - i) = cap - i from Nat.min_self _])
      (hsrc W hW) (by rw [hld, hs2]; omega) (flE_one _)).trans (by rw [hc3])
  have hs3 : cur3.size = K * 19 := by
    rw [← hc3]
    simp only [List.size_toArray, List.length_append, List.length_take, List.length_drop, Array.length_toList, hs2, hld]
    omega
  have hlf : (flE (inE l i x)).length = (cap + 1) * 19 := by rw [flE_len (ok_inE HL0.out i HX.out), inE_length l i x (by have := HI.out; omega), HI.out.2.2.2]
  have ht3 : cur3.toList.take ((cap + 1) * 19) = flE (inE l i x) := by
    have e0 : cur2.toList = (cur1.toList.take (i * 19) ++ lE x) ++ cur1.toList.drop (i * 19 + (lE x).length) := by rw [← hc2]
    have e3 : (cur1.toList.take (i * 19) ++ lE x).length = (i + 1) * 19 := by rw [List.length_append, List.length_take, Array.length_toList, h2, hlx]; omega
    have e1 : cur2.toList.take ((i + 1) * 19) = cur1.toList.take (i * 19) ++ lE x := by rw [e0, ← e3, List.take_left]
    have e6 : cur3.toList = flE (inE l i x) ++ cur2.toList.drop ((i + 1) * 19 + (flE (l.drop i)).length) := by
      rw [← hc3, e1, h3, flE_inE HL0.out i (by have := HI.out; omega) x, flE_take HL0.out i (by have := HI.out; omega), flE_drop HL0.out i (by have := HI.out; omega)]
      simp only [List.append_assoc]
    rw [e6, ← hlf, List.take_left]
  have HF := Aside0.mk (show (flE (inE l i x)).length = (cap + 1) * 19 ∧ cap + 1 ≤ K ∧ K ≤ maxLen ∧ cur3.size = K * 19 ∧ cur3.toList.take ((cap + 1) * 19) = flE (inE l i x) from ⟨hlf, h4, h5, hs3, ht3⟩)
  have HNG := Aside0.mk (show ng = w.heap.size ∧ Below w.heap.size w W1 ∧ W1.setRow ng cur2 = W2 ∧ W2.heap[ng]? = some (.cells cur2 42 (0, 0)) from ⟨hng, h6, hW2, hh2⟩)
  have hb5 : ¬ (K = i) := by omega
  have hb6 : ¬ (K = i + 1) := by omega
  have hb7 : i + 1 ≤ cap + 1 := by omega
  have hb8 : i ≤ cap + 1 := by omega
  have hb9 : cap + 1 ≤ K := h4
  have hb10 : i + 1 ≤ K := by omega
  have hb11 : i ≤ K := by omega
  have hb12 : ¬ (cap = i + 1 - 1) := by omega
  clear hlf ht3 hs3 h1 h2 h3 h4 h5 h6 hng hW2 hh2 hc2 hc3 hlx hld hvb hv1 hvg hs2 hsrc
  go_wp2
  have hcp3 := hcp2 (W1.setRow ng cur2).drew (by rw [HNG.out.2.2.1]; rfl)
  go_region_law_o (refine step_copy_runA rfl _ _ 50 50 rfl _ _ (by simp [Act.eval, Act.put]) (by simp [Act.eval, Act.put]) (hcp3 _ _ _) ?_)
  go_wp2
  go_ret
  have hd : (W1.setRow ng cur2).drew.heap[ng]? = some (.cells cur2 42 (0, 0)) := by rw [HNG.out.2.2.1]; exact HNG.out.2.2.2
  refine ⟨_, rfl, ⟨HF.out.1, .inr ⟨ng, K, cur3, rfl, by rw [HNG.out.1]; exact HI.out.2.2.1, setRow_heap _ ng cur2 _ _ _ hd, HF.out.2.1, HF.out.2.2.1, HF.out.2.2.2.1, HF.out.2.2.2.2⟩⟩, ?_⟩
  have h6 := HNG.out.2.1
  exact ⟨h6.os, h6.tape, h6.output, by rw [size_setRowE]; show w.heap.size ≤ (W1.setRow ng cur2).heap.size; rw [size_setRowE]; exact h6.size, fun k hk _ => (setRow_other _ ng k _ (by rw [HNG.out.1]; omega)).trans ((setRow_other W1 ng k _ (by rw [HNG.out.1]; omega)).trans (h6.block k hk))⟩
/-- An entry is put in, wherever it goes. -/
theorem ins_all (base i : Nat) (l : List En) (hl0 : okE l) (x : En) (hx : x.p.a.ok) (v : Value) (vb : Nat) (w : World) (hrow : w.ownsRow base 42 19 v l.length (flE l)) (hi : i ≤ l.length)
    (hv : w.heap[vb]? = some (.cells (eE x) 42 (0, 0))) (hvg : some vb ≠ v.ownBlock) (hl : l.length ≤ 1000000) (hb : base ≤ w.heap.size) :
    Calls Try.prog 50 #[v, .int .i64 (i : Int), .slice (some ⟨vb, 0, none⟩) 1 1] w fun e w' =>
      ∃ v', e = .returned v' ∧ w'.ownsRow base 42 19 v' (l.length + 1) (flE (inE l i x)) ∧ w.grownBy w' v.ownBlock := by
  rcases hrow.2 with ⟨rfl, hn⟩ | ⟨g, cap, cur, rfl, h1, h2, h3, h4, h5, h6⟩
  · have hl1 : l = [] := List.length_eq_zero_iff.1 hn
    subst hl1
    obtain rfl : i = 0 := by simpa using hi
    refine (ins_nil base x hx vb w hv hb).mono ?_
    rintro e w' ⟨v', rfl, h1, h2⟩
    refine ⟨v', rfl, ?_, h2⟩
    have e : flE (inE [] 0 x) = lE x := by
      show lE x ++ [] = lE x
      rw [List.append_nil]
    rw [e]
    exact h1
  · have hvg' : vb ≠ g := fun e => hvg (by rw [e]; rfl)
    rcases Nat.lt_or_ge i l.length with h | h
    · rcases Nat.lt_or_ge cap (l.length + 1) with h7 | h7
      · exact ins_grow base g cap i l hl0 x hx vb w hrow h h7 hv hl hb
      · exact ins_shift base g cap i l hl0 x hx vb w hrow h h7 hv hvg' hl
    · obtain rfl : i = l.length := by omega
      exact ins_end base g cap l hl0 x hx vb w hrow hv hl hb
end Go.Proofs.Ythjhbhgfckaklaa.P
