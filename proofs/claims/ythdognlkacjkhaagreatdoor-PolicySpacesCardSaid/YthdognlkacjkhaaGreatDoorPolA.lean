/-
  Rows of addresses, rows of numbers; policy.Spaces.
-/
import Derived.Test.YthdognlkacjkhaaGreatDoorSpaZ
namespace Go.Proofs.YthdognlkacjkhaaGreatDoor.P
open Go.RowKit Go.Proofs.YthdognlkacjkhaaGreatDoorW.PrintWords Go.Proofs.YthdognlkacjkhaaGreatDoorW.PrintLast Go.Proofs.YthdognlkacjkhaaGreatDoorW.PrintMore
set_option linter.unusedVariables false
set_option linter.unusedSimpArgs false
def flA (l : List Ad) : List Value := l.flatMap lA
abbrev okA (l : List Ad) : Prop := ∀ a ∈ l, a.ok
theorem flA_len : ∀ {l : List Ad}, okA l → (flA l).length = l.length * 17
  | [], _ => rfl
  | e :: l, h => by
    have ih := flA_len (l := l) (fun x hx => h x (List.mem_cons_of_mem _ hx))
    unfold flA at ih ⊢
    rw [List.flatMap_cons, List.length_append, ih, lA_len (h e List.mem_cons_self), List.length_cons]
    omega
theorem flA_append (x y : List Ad) : flA (x ++ y) = flA x ++ flA y := List.flatMap_append
theorem flA_cons (e : Ad) (l : List Ad) : flA (e :: l) = lA e ++ flA l := List.flatMap_cons
theorem flA_drop {l : List Ad} (h : okA l) (i : Nat) (hi : i ≤ l.length) : flA (l.drop i) = (flA l).drop (i * 17) := by
  have h1 : okA (l.take i) := fun e he => h e (List.mem_of_mem_take he)
  have h2 := flA_append (l.take i) (l.drop i)
  rw [List.take_append_drop] at h2
  have h3 : (flA (l.take i)).length = i * 17 := by rw [flA_len h1, List.length_take, Nat.min_eq_left hi]
  rw [h2, ← h3, List.drop_left]
theorem flA_get {l : List Ad} (h : okA l) {i : Nat} {e : Ad} (he : l[i]? = some e) {j : Nat} {u : Value} (hj : (lA e)[j]? = some u) : (flA l)[i * 17 + j]? = some u := by
  have hi : i < l.length := (List.getElem?_eq_some_iff.1 he).1
  have hd := flA_drop h i (Nat.le_of_lt hi)
  have hl : l.drop i = e :: l.drop (i + 1) := by
    rw [List.drop_eq_getElem_cons hi]
    congr 1
    exact (List.getElem?_eq_some_iff.1 he).2
  rw [← List.getElem?_drop, ← hd, hl, flA_cons, List.getElem?_append_left (List.getElem?_eq_some_iff.1 hj).1]
  exact hj
theorem rdA_of_own {w : World} {base : Nat} {v : Value} {l : List Ad} (h : w.ownsRow base 30 17 v l.length (flA l)) (hl : okA l) : ∃ (A : Option Addr) (cap : Nat), v = .slice A l.length cap ∧ RdA w A l.length cap l := by
  rcases h.2 with ⟨hv, hn⟩ | ⟨g, cap, cur, hv, hb, hg, hc, hm, hs, ht⟩
  · have hl0 : l = [] := List.length_eq_zero_iff.1 hn
    subst hl0
    exact ⟨none, 0, hv, rfl, fun i d hd => by simp at hd⟩
  · refine ⟨some ⟨g, 0, none⟩, cap, hv, rfl, fun i d hd => ⟨g, i * 17, fun w => ?_, range_of_block hg ht (fun j u hj => flA_get hl hd hj), hl d (List.mem_of_getElem? hd)⟩⟩
    have := idx_ad g 0 l.length cap i w (List.getElem?_eq_some_iff.1 hd).1
    rwa [Nat.zero_add] at this
theorem own_ne_any {w : World} {base n T sz : Nat} {te : TypeId} {v : Value} {xs : List Value} {cs : Array Value} {t : TypeId} (h : w.ownsRow base te sz v n xs) (hT : w.heap[T]? = some (.cells cs t (0, 0))) (ht : t ≠ te) : v.ownBlock ≠ some T := by
  rcases h.2 with ⟨rfl, _⟩ | ⟨g, cap, cur, rfl, hb, hg, _⟩
  · intro e; cases e
  · intro e
    have e' : g = T := Option.some.inj e
    subst e'
    rw [hg] at hT
    injection hT with h1
    injection h1 with _ h2
    exact ht h2.symm
theorem own_keep_any {w w' : World} {base n sz : Nat} {te : TypeId} {v : Value} {xs : List Value} (h : w.ownsRow base te sz v n xs) (hk : ∀ g, v.ownBlock = some g → w'.heap[g]? = w.heap[g]?) : w'.ownsRow base te sz v n xs := by
  rcases h.2 with h2 | ⟨g, cap, cur, rfl, hb, hg, h3⟩
  · exact ⟨h.1, .inl h2⟩
  · exact ⟨h.1, .inr ⟨g, cap, cur, rfl, hb, (hk g rfl).trans hg, h3⟩⟩
theorem own_row_any {w : World} {base n sz g : Nat} {te : TypeId} {v : Value} {xs : List Value} {cells cs : Array Value} {t : TypeId} (h : w.ownsRow base te sz v n xs) (hg : w.heap[g]? = some (.cells cs t (0, 0))) (ht : t ≠ te) : (w.setRow g cells).ownsRow base te sz v n xs :=
  own_keep_any h fun k hk => row_far (show k ≠ g from fun e => own_ne_any h hg ht (by rw [← e]; exact hk))
theorem own_below_any {w w' : World} {base n sz : Nat} {te : TypeId} {v : Value} {xs : List Value} (h : w.ownsRow base te sz v n xs) (hb : Below w.heap.size w w') : w'.ownsRow base te sz v n xs := own_keep_any h fun g hg => hb.block g (h.lt g hg).2
theorem own_ticks_any {w w' : World} {base n sz T so : Nat} {te : TypeId} {v : Value} {xs : List Value} {k : Int} (h : w.ownsRow base te sz v n xs) (ht : Ticks T so w w' k) (hT : v.ownBlock ≠ some T) : w'.ownsRow base te sz v n xs := own_keep_any h fun g hg => ht.block g (h.lt g hg).2 (fun e => hT (by rw [← e]; exact hg))
theorem info_Ad : (Tryz.prog.info? 30).map (fun i => (i.zero, i.size, i.bytes)) = some (some (.agg (eA noA)), 17, 24) := by kernel_rfl
theorem info_Int : (Tryz.prog.info? 3).map (fun i => (i.zero, i.size, i.bytes)) = some (some (.int .i64 0), 1, 8) := by kernel_rfl
theorem fill_ad16 (f b0 b1 b2 b3 b4 b5 b6 b7 b8 b9 b10 b11 b12 b13 b14 b15 : Int) : Instr.fill (fun i => some (i * 17, 17)) ((Array.range (1 * 17)).map ((Value.agg (eA noA)).cells[· % (Value.agg (eA noA)).cells.size]!)) [(0, .agg (eA ⟨f, [b0, b1, b2, b3, b4, b5, b6, b7, b8, b9, b10, b11, b12, b13, b14, b15]⟩))] = some (eA ⟨f, [b0, b1, b2, b3, b4, b5, b6, b7, b8, b9, b10, b11, b12, b13, b14, b15]⟩) := by kernel_rfl
theorem fill_ad {e : Ad} (he : e.ok) : Instr.fill (fun i => some (i * 17, 17)) ((Array.range (1 * 17)).map ((Value.agg (eA noA)).cells[· % (Value.agg (eA noA)).cells.size]!)) [(0, .agg (eA e))] = some (eA e) := by
  obtain ⟨f, bs⟩ := e
  match bs, he.1 with
  | [b0, b1, b2, b3, b4, b5, b6, b7, b8, b9, b10, b11, b12, b13, b14, b15], _ => exact fill_ad16 f b0 b1 b2 b3 b4 b5 b6 b7 b8 b9 b10 b11 b12 b13 b14 b15
theorem wp_lit_ad {ops : Array Oper} {rest : List Oper} {o : Oper} {a : Act} {w : World} {Q : Exit → Act → World → Prop} (hgd : o.guard = none) (x : Operand) (ho : o.op = .buildSlice 22 1 #[(0, x)]) (e : Ad) (he : e.ok) (hx : a.eval x = .agg (eA e))
    (h : ∀ (vb : Nat) (w' : World), w'.heap[vb]? = some (.cells (eA e) 30 (0, 0)) → Below w.heap.size w w' → wpList Tryz.prog ops Q rest (a.put o.dst (.slice (some ⟨vb, 0, none⟩) 1 1)) w') : wpList Tryz.prog ops Q (o :: rest) a w := by
  obtain ⟨i0, hi, hz0, hz1, hz2⟩ := info_parts info_Ad
  refine wpList_buildSlice hgd 22 30 1 _ ho (eA e) i0 (.agg (eA noA)) Tryz.underlying22 hi hz0 (by rw [hz1]; decide) (by rw [hz1]; decide) ?_ (h _ _ (heap_alloc_new w _) (below_alloc (Below.refl _ _) _))
  rw [hz1]
  simp only [List.map_toArray, List.map_cons, List.map_nil, hx]
  exact fill_ad he
theorem fill_int (z : Int) : Instr.fill (fun i => some (i * 1, 1)) ((Array.range (1 * 1)).map ((Value.int .i64 0).cells[· % (Value.int .i64 0).cells.size]!)) [(0, .int .i64 z)] = some #[.int .i64 z] := by kernel_rfl
theorem wp_lit_int {ops : Array Oper} {rest : List Oper} {o : Oper} {a : Act} {w : World} {Q : Exit → Act → World → Prop} (hgd : o.guard = none) (x : Operand) (ho : o.op = .buildSlice 32 1 #[(0, x)]) (z : Int) (hx : a.eval x = .int .i64 z)
    (h : ∀ (vb : Nat) (w' : World), w'.heap[vb]? = some (.cells #[.int .i64 z] 3 (0, 0)) → Below w.heap.size w w' → wpList Tryz.prog ops Q rest (a.put o.dst (.slice (some ⟨vb, 0, none⟩) 1 1)) w') : wpList Tryz.prog ops Q (o :: rest) a w := by
  obtain ⟨i0, hi, hz0, hz1, hz2⟩ := info_parts info_Int
  refine wpList_buildSlice hgd 32 3 1 _ ho #[.int .i64 z] i0 (.int .i64 0) Tryz.underlying32 hi hz0 (by rw [hz1]; decide) (by rw [hz1]; decide) ?_ (h _ _ (heap_alloc_new w _) (below_alloc (Below.refl _ _) _))
  rw [hz1]
  simp only [List.map_toArray, List.map_cons, List.map_nil, hx]
  exact fill_int z
theorem val_ad {w : World} {vb : Nat} {t : TypeId} {x : Ad} (hv : w.heap[vb]? = some (.cells (eA x) t (0, 0))) : ∀ j u, (lA x)[j]? = some u → w.cell? ((⟨vb, 0, none⟩ : Addr).add j) = some u := fun j u hj => by
  rw [add_plain, cell_of_row w vb j (eA x) t (0, 0) hv]
  unfold eA
  rw [List.getElem?_toArray]
  exact hj
theorem val_one {w : World} {vb : Nat} {t : TypeId} {x : Value} (hv : w.heap[vb]? = some (.cells #[x] t (0, 0))) : ∀ j u, [x][j]? = some u → w.cell? ((⟨vb, 0, none⟩ : Addr).add j) = some u := fun j u hj => by
  rw [add_plain, cell_of_row w vb j #[x] t (0, 0) hv]
  rw [← hj, List.getElem?_toArray]
theorem ticks_grow {T so : Nat} {w w6 w7 : World} {k : Int} {o : Option Nat} (h : Ticks T so w w6 k) (hT : T < w.heap.size) (hg : w6.grownBy w7 o) (ho : ∀ g, o = some g → w.heap.size ≤ g) : Ticks T so w w7 k :=
  ⟨hg.os.trans h.os, hg.tape.trans h.tape, hg.output.trans h.output, Nat.le_trans h.size hg.size, fun x hx hn => (hg.block x (Nat.lt_of_lt_of_le hx h.size) (fun e => by have := ho x e.symm; omega)).trans (h.block x hx hn), fun cs t hc => (hg.block T (Nat.lt_of_lt_of_le hT h.size) (fun e => by have := ho T e.symm; omega)).trans (h.same cs t hc)⟩
/-- The spaces of addresses, as values. -/
def spV (l : List En) (L : List Ad) : List Value := L.map fun a => .int .i64 (spOf l a)
theorem spV_snoc {l : List En} {L : List Ad} {i : Nat} {d : Ad} (h : L[i]? = some d) : spV l (L.take (i + 1)) = spV l (L.take i) ++ [.int .i64 (spOf l d)] := by
  unfold spV
  rw [List.take_add_one, h, List.map_append]
  rfl
theorem idx_int (g n cap i : Nat) (w : World) (hi : i < n) : (Instr.indexAt 32 (.slice (some ⟨g, 0, none⟩) n cap) (.int .i64 (i : Int))).run Tryz.prog w = .ok (.pointer (some ⟨g, i, none⟩)) w := by
  have h0 : (0 : Int) ≤ (i : Int) := Int.natCast_nonneg i
  have h1 : (i : Int) < (n : Int) := by omega
  go_simp
set_option maxHeartbeats 8000000 in
set_option maxRecDepth 100000 in
theorem policy_Spaces (M T base B : Nat) (sv : Value) (l : List En) (k : Nat) (hF : Fine l k) (hll : l.length ≤ 17) (A : Option Addr) (n cap : Nat) (L : List Ad) (hL : okA L) (hn : L.length = n) (hn10 : n ≤ 10) (w : World) (hm : Mp w M T base ((0 : Nat) : Int) sv l) (hown : w.ownsRow B 30 17 (.slice A n cap) n (flA L)) :
    Calls Tryz.prog 6 #[.slice A n cap, .pointer (some ⟨M, 0, none⟩)] w fun r w' => ∃ (v : Value) (st : Nat), r = .returned v ∧ w'.ownsRow w.heap.size 3 1 v n (spV l L) ∧ Ticks T 1 w w' (st : Int) := by
  have HF := Aside0.mk hF
  have HLL := Aside0.mk hll
  have HOK := Aside0.mk hL
  have HN := Aside0.mk hn
  have HN10 := Aside0.mk hn10
  have HM := Aside0.mk hm
  have HOA := Aside0.mk hown
  have HTT := Aside0.mk (blk_lt hm.tb.blk)
  obtain ⟨i0, hi0, hz0, hz1, hz2⟩ := info_parts info_Int
  clear hF hll hL hn hn10 hm hown
  go_enter Tryz.func6, Tryz.ntmps6
  go_wp2
  go_loopw [5, 10] (fun v5 v10 wr => ∃ (i st : Nat) (u : Value), u = v5 ∧ v10 = .int .i64 (i : Int) ∧ Aside0 (i ≤ n) ∧ Aside0 (st ≤ 3000 * i) ∧ Aside0 (Ticks T 1 w wr (st : Int)) ∧ Aside0 (wr.ownsRow w.heap.size 3 1 u i (spV l (L.take i)))) (fun _ v10 _ => n - (intOf v10).toNat)
  case atStart => exact ⟨0, 0, _, rfl, rfl, ⟨Nat.zero_le _⟩, ⟨Nat.zero_le _⟩, ⟨ticks_refl HM.out.tb.blk rfl⟩, ⟨World.ownsRow_nil _ _ _ _⟩⟩
  case round =>
    obtain ⟨i, st, u, rfl, rfl, HI, HST, HTK, HO⟩ := hrel
    by_cases hi : i < n
    · have e0 : decide ((i : Int) < (n : Int)) = true := decide_eq_true (by omega)
      have e0n : decide (i < n) = true := decide_eq_true hi
      obtain ⟨d, hd⟩ : ∃ d, L[i]? = some d := ⟨L[i]'(by have := HN.out; omega), List.getElem?_eq_getElem _⟩
      have HA := Aside0.mk (own_ticks_any HOA.out HTK.out (own_ne_any HOA.out HM.out.tb.blk (by decide)))
      have HMI := Aside0.mk (mp_ticks HM.out HTK.out)
      obtain ⟨A', cap', hsl, hra⟩ := rdA_of_own (l := L) (by rw [HN.out]; exact HA.out) HOK.out
      rw [HN.out] at hsl hra
      injection hsl with hs1 hs2 hs3
      subst hs1 hs3
      obtain ⟨G, o, hidx, hrg, hdok⟩ := hra.at_ i d hd
      have HRG := Aside0.mk hrg
      have HDO := Aside0.mk hdok
      have HSN := Aside0.mk (spV_snoc (l := l) hd)
      have E1 := Aside0.mk (wrap_up6 i (by have := HN10.out; omega))
      have HOF := Aside0.mk (fun (w : World) (hm : Mp w M T base ((st : Nat) : Int) sv l) => map_Of M T base st sv l d hdok w hm HF.out.sorted (by have := HLL.out; omega) (by have := HST.out; have := HN10.out; omega))
      obtain ⟨z, hz⟩ : ∃ z, spOf l d = z := ⟨_, rfl⟩
      rw [hz] at HOF HSN
      clear hd hrg hdok hra hz
      go_wp2_with (first
        | ((with_reducible refine gate_dst (N := 13) rfl ?_); refine wpList_load_mid rfl 30 (.tmp 12) rfl G o rfl (lA d) _ HRG.out Tryz.underlying30 rfl (infoAd_len HDO.out) ?_)
        | ((with_reducible refine gate_dst (N := 7) rfl ?_); refine box_event ?hg (N := 7) ?hd (cs := eA noA) (t := 30) ?hr ?_; (case hd => rfl); (case hg => rfl); (case hr => first | (go_simp; done) | (go_simp; rfl)); intro k7 hg w2 hbox hb; have H7 := Aside0.mk hbox; have HG7 := Aside0.mk (show w.heap.size ≤ k7 by rw [hg]; exact HTK.out.size); have HN7 := Aside0.mk (show M ≠ k7 ∧ k7 ≠ T by have h1 := (Array.getElem?_eq_some_iff.1 HMI.out.blk).1; have h2 := (Array.getElem?_eq_some_iff.1 HMI.out.tb.blk).1; omega); have HF7 := Aside0.mk (own_fresh HMI.out.tb.row (Nat.le_of_eq hg.symm)); replace HMI := Aside0.mk (mp_below HMI.out hb); replace HO := Aside0.mk (own_below_any HO.out hb); replace HTK := Aside0.mk (ticks_below HTK.out hb); clear hb hg hbox)
        | ((with_reducible refine gate_store (t := 30) (p := 7) rfl ?_); refine wpList_store_row rfl 30 (.tmp 7) (.tmp 13) rfl k7 (eA d) rfl rfl 30 (eA noA) H7.out (infoE HDO.out) ((eA_size ok_noA).trans (eA_size HDO.out).symm) (eA_one _) ?_; replace HMI := Aside0.mk (mp_row HMI.out HN7.out.1 HN7.out.2 HF7.out (eA d)); replace HTK := Aside0.mk (ticks_row HTK.out HG7.out HN7.out.2 (eA d)); replace HO := Aside0.mk (own_row_any (cells := eA d) HO.out H7.out (by decide)); replace H7 := Aside0.mk (row_new (cells := eA d) H7.out); generalize w2.setRow k7 (eA d) = w3 at H7 HMI HTK HO ⊢)
        | ((with_reducible refine gate_dst (N := 16) rfl ?_); refine wpList_load_row rfl 30 (.tmp 7) rfl k7 rfl 30 (eA d) (0, 0) _ H7.out Tryz.underlying30 rfl (infoE HDO.out) ?_)
        | (go_at_call 15; refine (HOF.out _ HMI.out).mono ?_; rintro r w4 ⟨rfl, m, hm, htk⟩; replace HO := Aside0.mk (own_ticks_any HO.out htk (own_ne_any HO.out HMI.out.tb.blk (by decide))); replace HTK := Aside0.mk (ticks_trans HTK.out htk); have HST2 := Aside0.mk (show st + m ≤ 3000 * (i + 1) by have h1 := blen_le l.length; have h2 := HLL.out; have h3 := HST.out; omega); clear hm htk)
        | ((with_reducible refine gate_dst (N := 18) rfl ?_); refine wp_lit_int rfl (.tmp 17) rfl z rfl ?_; intro vb w5 hvb hb5; have HV := Aside0.mk (val_one hvb); replace HO := Aside0.mk (own_below_any HO.out hb5); replace HTK := Aside0.mk (ticks_below HTK.out hb5); clear hvb hb5)
        | (at_builtin; refine wpList_append_own _ rfl _ _ 32 rfl w.heap.size 3 i0 (.int .i64 0) 1 8 Tryz.underlying32 hi0 hz0 hz1 hz2 rfl (by decide) _ _ _ rfl HO.out ⟨vb, 0, none⟩ 1 1 [.int .i64 z] rfl rfl HV.out (fun v hv => by rcases List.mem_singleton.1 hv with rfl; rfl) (by have := HN10.out; simp only [maxLen]; omega) (by have := HN10.out; omega) HTK.out.size ?_))
      intro v' w7 hown hgrow hnil
      have HO7 := Aside0.mk hown
      have HT7 := Aside0.mk (ticks_grow HTK.out HTT.out hgrow (fun g hg => (HO.out.lt g hg).1))
      clear hown hgrow hnil
      go_wp2
      go_roundw
      case rel => exact ⟨i + 1, st + m, _, rfl, by first | rfl | exact congrArg (Value.int .i64) E1.out | exact congrArg (Value.int .i64) (by omega), ⟨by omega⟩, HST2, HT7, ⟨by rw [HSN.out]; exact HO7.out⟩⟩
      case measure => exact measure_up n i _ (by first | rfl | exact E1.out | omega) (by omega)
    · have hin : i = n := by have := HI.out; omega
      have e0 : decide ((i : Int) < (n : Int)) = false := decide_eq_false (by omega)
      have e0n : decide (i < n) = false := decide_eq_false hi
      have HOE := Aside0.mk (show wr.ownsRow w.heap.size 3 1 u n (spV l L) by have h := HO.out; rw [hin, show L.take n = L from List.take_of_length_le (by rw [HN.out]; exact Nat.le_refl _)] at h; exact h)
      clear hi hin
      go_wp2
      go_ret
      exact ⟨_, st, rfl, HOE.out, HTK.out⟩
end Go.Proofs.YthdognlkacjkhaaGreatDoor.P
