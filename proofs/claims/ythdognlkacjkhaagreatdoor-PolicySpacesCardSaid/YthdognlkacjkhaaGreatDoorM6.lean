/-
  Texts of the proof, put together.
-/
import Derived.Laws.AppendOwn
import Derived.Test.YthdognlkacjkhaaGreatDoorM5
section
namespace Go.Proofs.YthdognlkacjkhaaGreatDoor.P
open Go.RowKit Go.Proofs.YthdognlkacjkhaaGreatDoorW.PrintWords Go.Proofs.YthdognlkacjkhaaGreatDoorW.PrintLast Go.Proofs.YthdognlkacjkhaaGreatDoorW.PrintMore
set_option linter.unusedVariables false
set_option linter.unusedSimpArgs false
structure En where
  p : Pf
  v : Int
def lP (p : Pf) : List Value := lA p.a ++ [Value.int .i64 p.n]
def lE (e : En) : List Value := lP e.p ++ [Value.int .i64 e.v]
def eE (e : En) : Array Value := (lE e).toArray
def noE : En := ⟨noP, 0⟩
def flE (l : List En) : List Value := l.flatMap lE
abbrev okE (l : List En) : Prop := ∀ e ∈ l, e.p.a.ok
theorem lP_len {p : Pf} (h : p.a.ok) : (lP p).length = 18 := by unfold lP; rw [List.length_append, lA_len h]; rfl
theorem lE_len {e : En} (h : e.p.a.ok) : (lE e).length = 19 := by unfold lE; rw [List.length_append, lP_len h]; rfl
theorem eE_size {e : En} (h : e.p.a.ok) : (eE e).size = 19 := by unfold eE; simp [lE_len h]
theorem lA_one (a : Ad) : ∀ v ∈ lA a, v.oneCell' = true := by
  intro v hv
  unfold lA at hv
  simp only [List.mem_cons, List.mem_map] at hv
  rcases hv with rfl | ⟨x, _, rfl⟩ <;> rfl
theorem lP_one (p : Pf) : ∀ v ∈ lP p, v.oneCell' = true := by
  intro v hv
  rcases List.mem_append.1 hv with h | h
  · exact lA_one _ v h
  · rw [List.mem_singleton.1 h]; rfl
theorem lE_one (e : En) : ∀ v ∈ lE e, v.oneCell' = true := by
  intro v hv
  rcases List.mem_append.1 hv with h | h
  · exact lP_one _ v h
  · rw [List.mem_singleton.1 h]; rfl
theorem flE_one (l : List En) : ∀ v ∈ flE l, v.oneCell' = true := by
  intro v hv
  obtain ⟨e, _, h⟩ := List.mem_flatMap.1 hv
  exact lE_one e v h
theorem eE_one (e : En) : (eE e).all (·.oneCell') = true := by
  rw [Array.all_eq_true_iff_forall_mem]
  intro v hv
  exact lE_one e v (by unfold eE at hv; exact List.mem_toArray.1 hv)
theorem flE_len : ∀ {l : List En}, okE l → (flE l).length = l.length * 19
  | [], _ => rfl
  | e :: l, h => by
    have ih := flE_len (l := l) (fun x hx => h x (List.mem_cons_of_mem _ hx))
    unfold flE at ih ⊢
    rw [List.flatMap_cons, List.length_append, ih, lE_len (h e List.mem_cons_self), List.length_cons]
    omega
theorem flE_append (x y : List En) : flE (x ++ y) = flE x ++ flE y := List.flatMap_append
theorem flE_cons (e : En) (l : List En) : flE (e :: l) = lE e ++ flE l := List.flatMap_cons
theorem flE_take {l : List En} (h : okE l) (i : Nat) (hi : i ≤ l.length) : flE (l.take i) = (flE l).take (i * 19) := by
  have h1 : okE (l.take i) := fun e he => h e (List.mem_of_mem_take he)
  have h2 := flE_append (l.take i) (l.drop i)
  rw [List.take_append_drop] at h2
  have h3 : (flE (l.take i)).length = i * 19 := by rw [flE_len h1, List.length_take, Nat.min_eq_left hi]
  rw [h2, ← h3, List.take_left]
theorem flE_drop {l : List En} (h : okE l) (i : Nat) (hi : i ≤ l.length) : flE (l.drop i) = (flE l).drop (i * 19) := by
  have h1 : okE (l.take i) := fun e he => h e (List.mem_of_mem_take he)
  have h2 := flE_append (l.take i) (l.drop i)
  rw [List.take_append_drop] at h2
  have h3 : (flE (l.take i)).length = i * 19 := by rw [flE_len h1, List.length_take, Nat.min_eq_left hi]
  rw [h2, ← h3, List.drop_left]
theorem flE_get {l : List En} (h : okE l) {i : Nat} {e : En} (he : l[i]? = some e) {j : Nat} {u : Value} (hj : (lE e)[j]? = some u) : (flE l)[i * 19 + j]? = some u := by
  have hi : i < l.length := (List.getElem?_eq_some_iff.1 he).1
  have hd := flE_drop h i (Nat.le_of_lt hi)
  have hl : l.drop i = e :: l.drop (i + 1) := by
    rw [List.drop_eq_getElem_cons hi]
    congr 1
    exact (List.getElem?_eq_some_iff.1 he).2
  rw [← List.getElem?_drop, ← hd, hl, flE_cons, List.getElem?_append_left (List.getElem?_eq_some_iff.1 hj).1]
  exact hj
theorem infoEn : (Tryz.prog.info? 44).map (·.size) = some 19 := by kernel_rfl
theorem infoEr : (Tryz.prog.info? 52).map (·.size) = some 19 := by kernel_rfl
/-! ### a row of entries that is read -/
/-- A slice that reads as these entries: where the i-th one lies, and that it lies there. -/
structure Rd (w : World) (ty : TypeId) (A : Option Addr) (n cap G : Nat) (l : List En) : Prop where
  len : l.length = n
  idx : ∀ (w : World) (i : Nat), i < n → (Instr.indexAt ty (.slice A n cap) (.int .i64 (i : Int))).run Tryz.prog w = .ok (.pointer (some ⟨G, i * 19, none⟩)) w
  at_ : ∀ (i : Nat) (e : En), l[i]? = some e → w.rangeAt G (i * 19) (lE e)
theorem range_below {w w' : World} {b o : Nat} {cs : List Value} (h : w.rangeAt b o cs) (hb : Below w.heap.size w w') : w'.rangeAt b o cs := fun j v hv => by
  have h1 := h j v hv
  have hlt : b < w.heap.size := World.block_lt_of_cell? w ⟨b, o + j, none⟩ h1
  rw [← h1]
  exact World.cell?_of_block (hb.block b hlt)
theorem range_of_block {w : World} {b o n : Nat} {t : TypeId} {cur : Array Value} {cs xs : List Value} (hg : w.heap[b]? = some (.cells cur t (0, 0))) (ht : cur.toList.take n = xs) (h : ∀ j v, cs[j]? = some v → xs[o + j]? = some v) : w.rangeAt b o cs := fun j v hv => by
  have h1 := h j v hv
  rw [← ht, List.getElem?_take] at h1
  split at h1
  · rw [cell_of_row w b (o + j) cur t (0, 0) hg, ← Array.getElem?_toList]
    exact h1
  · cases h1
theorem part_pf {w : World} {G o : Nat} {e : En} (h : w.rangeAt G o (lE e)) : w.rangeAt G o (lP e.p) := fun j v hv => h j v (by
  unfold lE
  rw [List.getElem?_append_left (List.getElem?_eq_some_iff.1 hv).1]
  exact hv)
theorem part_n {w : World} {G o : Nat} {e : En} (he : e.p.a.ok) (h : w.rangeAt G o (lE e)) : w.cell? ⟨G, o + 17, none⟩ = some (.int .i64 e.p.n) := h 17 _ (by
  unfold lE lP
  rw [List.getElem?_append_left (by rw [List.length_append, lA_len he]; exact Nat.lt_succ_self 17), List.getElem?_append_right (by rw [lA_len he]; exact Nat.le_refl _), lA_len he]
  rfl)
theorem part_v {w : World} {G o : Nat} {e : En} (he : e.p.a.ok) (h : w.rangeAt G o (lE e)) : w.cell? ⟨G, o + 18, none⟩ = some (.int .i64 e.v) := h 18 _ (by
  unfold lE
  rw [List.getElem?_append_right (by rw [lP_len he]; exact Nat.le_refl _), lP_len he]
  rfl)
theorem range_row {w : World} {g : Nat} {t : TypeId} {xs : List Value} (hg : w.heap[g]? = some (.cells xs.toArray t (0, 0))) : w.rangeAt g 0 xs := fun j v hv => by
  rw [Nat.zero_add, cell_of_row w g j xs.toArray t (0, 0) hg, List.getElem?_toArray]
  exact hv
/-! ### a number that is counted up -/
/-- One cell is another number; all other blocks, and all other cells of its block, are as they were. -/
structure Ticks (sb so : Nat) (w w' : World) (k : Int) : Prop where
  os : w'.os = w.os
  tape : w'.tape = w.tape
  output : w'.output = w.output
  size : w.heap.size ≤ w'.heap.size
  block : ∀ b, b < w.heap.size → b ≠ sb → w'.heap[b]? = w.heap[b]?
  same : ∀ cs t, w.heap[sb]? = some (.cells cs t (0, 0)) → w'.heap[sb]? = some (.cells (cs.setIfInBounds so (.int .i64 k)) t (0, 0))
theorem ticks_refl {sb so : Nat} {w : World} {k : Int} {cs : Array Value} {t : TypeId} (h : w.heap[sb]? = some (.cells cs t (0, 0))) (hk : cs[so]? = some (.int .i64 k)) : Ticks sb so w w k :=
  ⟨rfl, rfl, rfl, Nat.le_refl _, fun _ _ _ => rfl, fun cs' t' h' => by
    rw [h] at h'
    cases h'
    obtain ⟨h1, h2⟩ := Array.getElem?_eq_some_iff.1 hk
    have e : cs.setIfInBounds so (.int .i64 k) = cs := by
      apply Array.ext_getElem?
      intro i
      rw [Array.getElem?_setIfInBounds]
      by_cases hi : so = i
      · subst hi; rw [if_pos rfl, if_pos h1, hk]
      · rw [if_neg hi]
    rw [e]
    exact h⟩
theorem ticks_trans {sb so : Nat} {a b c : World} {k k' : Int} (h : Ticks sb so a b k) (h' : Ticks sb so b c k') : Ticks sb so a c k' :=
  ⟨h'.os.trans h.os, h'.tape.trans h.tape, h'.output.trans h.output, Nat.le_trans h.size h'.size, fun x hx hn => (h'.block x (Nat.lt_of_lt_of_le hx h.size) hn).trans (h.block x hx hn), fun cs t hc => by
    have := h'.same _ _ (h.same cs t hc)
    rw [Array.setIfInBounds_setIfInBounds] at this
    exact this⟩
theorem ticks_below {sb so : Nat} {a b c : World} {k : Int} (h : Ticks sb so a b k) (hb : Below b.heap.size b c) : Ticks sb so a c k :=
  ⟨hb.os.trans h.os, hb.tape.trans h.tape, hb.output.trans h.output, Nat.le_trans h.size hb.size, fun x hx hn => (hb.block x (Nat.lt_of_lt_of_le hx h.size)).trans (h.block x hx hn), fun cs t hc => blk_below (h.same cs t hc) hb⟩
theorem below_ticks {sb so : Nat} {a b c : World} {k : Int} {cs : Array Value} {t : TypeId} (hs : a.heap[sb]? = some (.cells cs t (0, 0))) (hb : Below a.heap.size a b) (h : Ticks sb so b c k) : Ticks sb so a c k :=
  ⟨h.os.trans hb.os, h.tape.trans hb.tape, h.output.trans hb.output, Nat.le_trans hb.size h.size, fun x hx hn => (h.block x (Nat.lt_of_lt_of_le hx hb.size) hn).trans (hb.block x hx), fun cs t hc => h.same cs t (blk_below hc hb)⟩
theorem ticks_set {sb so : Nat} {w : World} {k : Int} {cs : Array Value} {t : TypeId} (h : w.heap[sb]? = some (.cells cs t (0, 0))) : Ticks sb so w (w.setCell ⟨sb, so, none⟩ (.int .i64 k)) k :=
  ⟨rfl, rfl, rfl, by unfold World.setCell; simp, fun b hb hn => Below.heap_setCell w _ _ b hn, fun cs' t' h' => blk_put h' so _ rfl⟩
theorem ticks_blk {sb so : Nat} {w w' : World} {k : Int} (h : Ticks sb so w w' k) {g : Nat} {o : Obj} (hg : w.heap[g]? = some o) (hn : g ≠ sb) : w'.heap[g]? = some o :=
  (h.block g (Array.getElem?_eq_some_iff.1 hg).1 hn).trans hg
theorem ticks_range {sb so : Nat} {w w' : World} {k : Int} (h : Ticks sb so w w' k) {b o : Nat} {cs : List Value} (hg : w.rangeAt b o cs) (hn : b ≠ sb) : w'.rangeAt b o cs := fun j v hv => by
  have h1 := hg j v hv
  have hlt : b < w.heap.size := World.block_lt_of_cell? w ⟨b, o + j, none⟩ h1
  rw [← h1]
  exact World.cell?_of_block (h.block b hlt hn)
/-! ### the comparison of a search -/
set_option maxHeartbeats 4000000 in
set_option maxRecDepth 100000 in
theorem search_cmp (e : En) (p : Pf) (he : e.p.a.ok) (hp : p.a.ok) (B sb so : Nat) (tB t : TypeId) (cs : Array Value) (k : Int) (w : World) (hB : w.heap[B]? = some (.cells #[.pointer (some ⟨sb, so, none⟩)] tB (0, 0))) (hs : w.heap[sb]? = some (.cells cs t (0, 0))) (hk : cs[so]? = some (.int .i64 k)) :
    Calls Tryz.prog 80 #[.agg (eE e), .agg (eP p), .pointer (some ⟨B, 0, none⟩)] w fun r w' => r = .returned (.int .i64 (cmpP e.p p)) ∧ Ticks sb so w w' (wrap64 (k + 1)) := by
  have HB := Aside0.mk (Below.refl w.heap.size w)
  have HE := Aside0.mk he
  have HP := Aside0.mk hp
  have HBB := Aside0.mk hB
  have HS := Aside0.mk hs
  have HS0 := Aside0.mk hs
  have HK := Aside0.mk hk
  clear he hp hB hs hk
  go_enter Tryz.func80, Tryz.ntmps80
  go_wp2_with (first
    | ((with_reducible refine gate_dst (N := 3) rfl ?_); refine box_event ?hg (N := 3) ?hd (cs := eE e) (t := 44) ?hr ?_; (case hd => rfl); (case hg => rfl); (case hr => first | (go_simp; done) | (go_simp; rfl)); intro g3 hg w1 hbox hb; have HX := Aside0.mk hbox; have HN3 := Aside0.mk (show g3 ≠ sb by rw [hg]; exact Ne.symm (Nat.ne_of_lt (blk_lt (blk_later HS.out)))); replace HBB := Aside0.mk (blk_below (blk_later HBB.out) hb); replace HS := Aside0.mk (blk_below (blk_later HS.out) hb); replace HB := Aside0.mk (below_step (bel_later HB.out) hb); clear hb hg hbox)
    | ((with_reducible refine gate_dst (N := 4) rfl ?_); refine box_event ?hg (N := 4) ?hd (cs := eP p) (t := 42) ?hr ?_; (case hd => rfl); (case hg => rfl); (case hr => first | (go_simp; done) | (go_simp; rfl)); intro g4 hg w2 hbox hb; have HY := Aside0.mk hbox; have HN := Aside0.mk (show g3 ≠ sb ∧ g4 ≠ sb from ⟨HN3.out, by rw [hg]; exact Ne.symm (Nat.ne_of_lt (blk_lt (blk_later HS.out)))⟩); replace HX := Aside0.mk (blk_below (blk_later HX.out) hb); replace HBB := Aside0.mk (blk_below (blk_later HBB.out) hb); replace HS := Aside0.mk (blk_below (blk_later HS.out) hb); replace HB := Aside0.mk (below_step (bel_later HB.out) hb); have h0 : w2.cell? ⟨B, 0, none⟩ = some (.pointer (some ⟨sb, so, none⟩)) := blk_cell HBB.out 0; have h1 := (blk_cell HS.out so).trans HK.out; have hfz := blk_frozen HS.out so; clear hb hg hbox)
    | ((with_reducible refine gate_dst (N := 12) rfl ?_); have HT := Aside0.mk (ticks_set (so := so) (k := wrap64 (k + 1)) HS.out); have HX3 := Aside0.mk (ticks_blk HT.out HX.out HN.out.1); have HY3 := Aside0.mk (ticks_blk HT.out HY.out HN.out.2); generalize w2.setCell ⟨sb, so, none⟩ (.int .i64 (wrap64 (k + 1))) = w3 at HT HX3 HY3 ⊢; refine wpList_load_mid rfl 42 (.tmp 11) rfl g3 0 rfl (lP e.p) _ (part_pf (range_row HX3.out)) Tryz.underlying42 rfl (infoEP HE.out) ?_)
    | ((with_reducible refine gate_dst (N := 13) rfl ?_); refine wpList_load_row rfl 42 (.tmp 4) rfl g4 rfl 42 (eP p) (0, 0) _ HY3.out Tryz.underlying42 rfl (infoEP HP.out) ?_)
    | (go_at_call 81; refine (cidr_Compare e.p p HE.out HP.out _).mono ?_; rintro r w4 ⟨rfl, hb⟩; have HF := Aside0.mk (below_ticks HS0.out HB.out (ticks_below HT.out hb)); clear hb))
  go_ret
  exact ⟨rfl, HF.out⟩
/-- How often a number can be halved. -/
def blen (n : Nat) : Nat := if h : n = 0 then 0 else blen (n / 2) + 1
decreasing_by omega
theorem blen_pos {n : Nat} (h : 0 < n) : blen n = blen (n / 2) + 1 := by rw [blen, dif_neg (by omega)]
theorem blen_zero : blen 0 = 0 := by rw [blen, dif_pos rfl]
theorem blen_mono : ∀ (n m : Nat), n ≤ m → blen n ≤ blen m := by
  intro n
  induction n using Nat.strongRecOn with
  | ind n ih =>
    intro m h
    by_cases hn : n = 0
    · subst hn; rw [blen_zero]; exact Nat.zero_le _
    · rw [blen_pos (show 0 < n by omega), blen_pos (show 0 < m by omega)]
      exact Nat.succ_le_succ (ih (n / 2) (by omega) (m / 2) (by omega))
theorem blen_le (n : Nat) : blen n ≤ n := by
  induction n using Nat.strongRecOn with
  | ind n ih =>
    by_cases hn : n = 0
    · subst hn; rw [blen_zero]; exact Nat.le_refl _
    · rw [blen_pos (show 0 < n by omega)]
      have := ih (n / 2) (by omega)
      omega
theorem mid_eq (lo hi : Nat) (h1 : lo ≤ 1000000) (h2 : hi ≤ 1000000) : wrap64 (IntKind.u64.wrap (wrap64 ((lo : Int) + (hi : Int))) / 2) = (((lo + hi) / 2 : Nat) : Int) := by
  have e1 : wrap64 ((lo : Int) + (hi : Int)) = ((lo + hi : Nat) : Int) := by unfold wrap64; omega
  rw [e1, wraps_u64 _ (Int.natCast_nonneg _) (by omega)]
  unfold wrap64
  omega
theorem wrap_cnt (k : Int) (m : Nat) (h0 : 0 ≤ k) (h1 : k ≤ 1000000000) (h2 : m ≤ 1000000) : wrap64 (k + (m : Int) + 1) = k + ((m + 1 : Nat) : Int) := by unfold wrap64; omega
/-- What a search's world knows. -/
structure Bs (w : World) (g4 B sb so G : Nat) (p : Pf) (tB t : TypeId) (cs : Array Value) (l : List En) (wr : World) (k : Int) : Prop where
  tgt : wr.heap[g4]? = some (.cells (eP p) 42 (0, 0))
  box : wr.heap[B]? = some (.cells #[.pointer (some ⟨sb, so, none⟩)] tB (0, 0))
  at_ : ∀ (i : Nat) (e : En), l[i]? = some e → wr.rangeAt G (i * 19) (lE e)
  cnt : wr.heap[sb]? = some (.cells (cs.setIfInBounds so (.int .i64 k)) t (0, 0))
  tck : Ticks sb so w wr k
theorem bs_ticks {w : World} {g4 B sb so G : Nat} {p : Pf} {tB t : TypeId} {cs : Array Value} {l : List En} {wr w' : World} {k k' : Int} (h : Bs w g4 B sb so G p tB t cs l wr k) (h1 : g4 ≠ sb) (h2 : B ≠ sb) (h3 : G ≠ sb) (ht : Ticks sb so wr w' k') : Bs w g4 B sb so G p tB t cs l w' k' :=
  ⟨ticks_blk ht h.tgt h1, ticks_blk ht h.box h2, fun i e he => ticks_range ht (h.at_ i e he) h3, by
    have := ht.same _ _ h.cnt
    rw [Array.setIfInBounds_setIfInBounds] at this
    exact this, ticks_trans h.tck ht⟩
theorem bs_below {w : World} {g4 B sb so G : Nat} {p : Pf} {tB t : TypeId} {cs : Array Value} {l : List En} {wr w' : World} {k : Int} (h : Bs w g4 B sb so G p tB t cs l wr k) (hb : Below wr.heap.size wr w') : Bs w g4 B sb so G p tB t cs l w' k :=
  ⟨blk_below h.tgt hb, blk_below h.box hb, fun i e he => range_below (h.at_ i e he) hb, blk_below h.cnt hb, ticks_below h.tck hb⟩
set_option maxHeartbeats 8000000 in
set_option maxRecDepth 100000 in
theorem bin_search (A : Option Addr) (n cap G : Nat) (l : List En) (hl : okE l) (p : Pf) (hp : p.a.ok) (B sb so : Nat) (tB t : TypeId) (cs : Array Value) (k : Int) (w : World)
    (hrd : Rd w 23 A n cap G l) (hB : w.heap[B]? = some (.cells #[.pointer (some ⟨sb, so, none⟩)] tB (0, 0))) (hs : w.heap[sb]? = some (.cells cs t (0, 0))) (hk : cs[so]? = some (.int .i64 k)) (hBs : B ≠ sb) (hGs : G ≠ sb) (hn : n ≤ 1000000) (hk0 : 0 ≤ k) (hk1 : k ≤ 1000000000)
    (hmono : ∀ (i j : Nat) (x y : En), i ≤ j → l[i]? = some x → l[j]? = some y → cmpP y.p p < 0 → cmpP x.p p < 0) :
    Calls Tryz.prog 79 #[.slice A n cap, .agg (eP p), .func (.func 80) #[] #[.pointer (some ⟨B, 0, none⟩)]] w fun r w' => ∃ (i : Nat) (b : Bool) (m : Nat), r = .returned (.tuple #[.int .i64 (i : Int), .bool b]) ∧
      Ticks sb so w w' (k + (m : Int)) ∧ m ≤ blen n + 1 ∧ i ≤ n ∧ (∀ (j : Nat) (x : En), j < i → l[j]? = some x → cmpP x.p p < 0) ∧ (∀ (j : Nat) (x : En), i ≤ j → l[j]? = some x → 0 ≤ cmpP x.p p) ∧ (b = true ↔ ∃ x, l[i]? = some x ∧ cmpP x.p p = 0) := by
  have HB := Aside0.mk (Below.refl w.heap.size w)
  have HP := Aside0.mk hp
  have HL := Aside0.mk hl
  have HRD := Aside0.mk hrd
  have HBX := Aside0.mk hB
  have HSB := Aside0.mk hs
  have HKK := Aside0.mk hk
  have HNE := Aside0.mk (show B ≠ sb ∧ G ≠ sb from ⟨hBs, hGs⟩)
  have HNN := Aside0.mk (show n ≤ 1000000 ∧ 0 ≤ k ∧ k ≤ 1000000000 from ⟨hn, hk0, hk1⟩)
  have HMO := Aside0.mk hmono
  clear hp hl hrd hB hs hk hBs hGs hn hk0 hk1 hmono
  go_enter Tryz.func79, Tryz.ntmps79
  go_wp2_with (first
    | ((with_reducible refine gate_dst (N := 4) rfl ?_); refine box_event ?hg (N := 4) ?hd (cs := eP p) (t := 42) ?hr ?_; (case hd => rfl); (case hg => rfl); (case hr => first | (go_simp; done) | (go_simp; rfl)); intro g4 hg w1 hbox hb; have HN4 := Aside0.mk (show g4 ≠ sb by rw [hg]; exact Ne.symm (Nat.ne_of_lt (blk_lt (blk_later HSB.out)))); have HBS := Aside0.mk (show Bs w g4 B sb so G p tB t cs l w1 k from ⟨hbox, blk_below (blk_later HBX.out) hb, fun i e he => range_below (HRD.out.at_ i e he) (below_step (bel_later HB.out) hb), by (have h1 := ticks_below (ticks_refl HSB.out HKK.out) (below_step (bel_later HB.out) hb)); exact h1.same _ _ HSB.out, ticks_below (ticks_refl HSB.out HKK.out) (below_step (bel_later HB.out) hb)⟩); clear hb hg hbox))
  go_loopw [9, 10] (fun v9 v10 wr => ∃ (lo hi m : Nat), v9 = .int .i64 (lo : Int) ∧ v10 = .int .i64 (hi : Int) ∧ Aside0 (lo ≤ hi ∧ hi ≤ n ∧ m + blen (hi - lo) ≤ blen n) ∧ Aside0 (∀ (j : Nat) (x : En), j < lo → l[j]? = some x → cmpP x.p p < 0) ∧ Aside0 (∀ (j : Nat) (x : En), hi ≤ j → l[j]? = some x → 0 ≤ cmpP x.p p) ∧ Aside0 (Bs w g4 B sb so G p tB t cs l wr (k + (m : Int)))) (fun v9 v10 _ => (intOf v10).toNat - (intOf v9).toNat)
  case atStart => exact ⟨0, n, 0, rfl, rfl, ⟨Nat.zero_le _, Nat.le_refl _, by rw [Nat.sub_zero]; omega⟩, ⟨fun j x hj => absurd hj (Nat.not_lt_zero _)⟩, ⟨fun j x hj hx => by
    have := (List.getElem?_eq_some_iff.1 hx).1
    have := HRD.out.len
    omega⟩, ⟨by
    rw [show k + ((0 : Nat) : Int) = k by omega]
    exact HBS.out⟩⟩
  case round =>
    obtain ⟨lo, hi, m, rfl, rfl, HI, HLO, HHI, HST⟩ := hrel
    clear HBS
    by_cases hlt : lo < hi
    · have c0 : decide ((lo : Int) < (hi : Int)) = true := decide_eq_true (by omega)
      have c1 : decide (lo < hi) = true := decide_eq_true hlt
      obtain ⟨h, hh⟩ : ∃ h : Nat, h = (lo + hi) / 2 := ⟨_, rfl⟩
      have eh : wrap64 (IntKind.u64.wrap (wrap64 ((lo : Int) + (hi : Int))) / 2) = (h : Int) := by rw [hh]; exact mid_eq lo hi (by have := HI.out; have := HNN.out.1; omega) (by have := HI.out; have := HNN.out.1; omega)
      have HH := Aside0.mk hh
      have HHN := Aside0.mk (show h < n by have := HI.out; omega)
      have HLT := Aside0.mk hlt
      have e4 : wrap64 ((h : Int) + 1) = ((h + 1 : Nat) : Int) := wrap_sm1 h (by have := HHN.out; have := HNN.out.1; omega)
      have HE4 := Aside0.mk e4
      obtain ⟨e, he⟩ : ∃ e, l[h]? = some e := ⟨l[h]'(by have := HRD.out.len; have := HHN.out; omega), List.getElem?_eq_getElem _⟩
      have HE := Aside0.mk he
      clear hlt hh he
      have HCK := Aside0.mk (show (cs.setIfInBounds so (.int .i64 (k + (m : Int))))[so]? = some (.int .i64 (k + (m : Int))) by
        rw [Array.getElem?_setIfInBounds, if_pos rfl, if_pos (Array.getElem?_eq_some_iff.1 HKK.out).1])
      have EK := Aside0.mk (wrap_cnt k m HNN.out.2.1 HNN.out.2.2 (by have := HI.out.2.2; have := blen_le n; have := HNN.out.1; omega))
      by_cases hc : cmpP e.p p < 0
      · have c4b0 : decide (cmpP e.p p < 0) = true := decide_eq_true hc
        have HC := Aside0.mk (hc)
        clear hc
        go_wp2
        obtain ⟨S, hS⟩ : ∃ S : World → Prop, S = fun w' => ∃ m' : Nat, Bs w g4 B sb so G p tB t cs l w' (k + (m' : Int)) := ⟨_, rfl⟩
        have HSx := Aside0.mk (show ∀ x : World, S x → x.heap[g4]? = some (.cells (eP p) 42 (0, 0)) ∧ ∀ (i : Nat) (e : En), l[i]? = some e → x.rangeAt G (i * 19) (lE e) by
          intro b h
          rw [hS] at h
          obtain ⟨m', h⟩ := h
          exact ⟨h.tgt, h.at_⟩)
        have HSy := Aside0.mk (show ∀ (x : World) (m' : Nat), Bs w g4 B sb so G p tB t cs l x (k + (m' : Int)) → S x by
          intro b m' h
          rw [hS]
          exact ⟨m', h⟩)
        clear hS
        have HD := Aside0.mk (bs_below HST.out (show Below wr.heap.size wr wr.drew from bel_later (Below.refl _ _)))
        have s0 : S wr.drew := HSy.out _ m HD.out
        refine wp_region_held_drew (S := S) (by kernel_rfl) s0 (fun _ => ?_)
        refine wpAnyH_take (i := 0) (v := .func (.func 80) #[] #[.pointer (some ⟨B, 0, none⟩)]) rfl (by kernel_rfl) (by kernel_rfl) (by kernel_rfl) (fun _ _ _ h => h) (Or.inl ⟨by kernel_rfl, fun w' hw => by first | (go_simp; done) | (go_simp; rfl)⟩) s0 ?_
        (try simp only [Act.put, List.getElem_toArray, List.getElem_cons_succ, List.getElem_cons_zero, List.setIfInBounds_toArray, List.set_cons_zero, List.set_cons_succ])
        refine wpAnyH_take (i := 1) (v := .slice A n cap) rfl (by kernel_rfl) (by kernel_rfl) (by kernel_rfl) (fun _ _ _ h => h) (Or.inl ⟨by kernel_rfl, fun w' hw => by first | (go_simp; done) | (go_simp; rfl)⟩) s0 ?_
        (try simp only [Act.put, List.getElem_toArray, List.getElem_cons_succ, List.getElem_cons_zero, List.setIfInBounds_toArray, List.set_cons_zero, List.set_cons_succ])
        refine wpAnyH_take (i := 2) (v := .int .i64 (h : Int)) rfl (by kernel_rfl) (by kernel_rfl) (by kernel_rfl) (fun _ _ _ h => h) (Or.inl ⟨by kernel_rfl, fun w' hw => by first | (go_simp; done) | (go_simp; rfl)⟩) s0 ?_
        (try simp only [Act.put, List.getElem_toArray, List.getElem_cons_succ, List.getElem_cons_zero, List.setIfInBounds_toArray, List.set_cons_zero, List.set_cons_succ])
        refine wpAnyH_take (i := 3) (v := .pointer (some ⟨G, h * 19, none⟩)) rfl (by kernel_rfl) (by kernel_rfl) (by kernel_rfl) (fun _ _ _ h => h) (Or.inl ⟨by kernel_rfl, fun w' hw => by have hf := HRD.out.idx w' h HHN.out; first | (go_simp; done) | (go_simp; rfl)⟩) s0 ?_
        (try simp only [Act.put, List.getElem_toArray, List.getElem_cons_succ, List.getElem_cons_zero, List.setIfInBounds_toArray, List.set_cons_zero, List.set_cons_succ])
        refine wpAnyH_take (i := 4) (v := .agg (lE e).toArray) rfl ?m04b ?m04c ?m04d (fun _ _ _ h => h) ?m04e s0 ?m04f
        case m04b => kernel_rfl
        case m04c => kernel_rfl
        case m04d => kernel_rfl
        case m04e =>
          refine yieldsIf_load_mid ?m04g 44 (.tmp 27) ?m04h G (h * 19) ?m04i (lE e) _ ?m04j Tryz.underlying44 ?m04k ((show (Tryz.prog.info? 44).map (·.size) = some (lE e).length by rw [lE_len (HL.out e (List.mem_of_getElem? HE.out))]; exact infoEn))
          case m04g => kernel_rfl
          case m04h => kernel_rfl
          case m04i => kernel_rfl
          case m04k => kernel_rfl
          case m04j => exact fun w' hw => (HSx.out w' hw).2 h e HE.out
        (try simp only [Act.put, List.getElem_toArray, List.getElem_cons_succ, List.getElem_cons_zero, List.setIfInBounds_toArray, List.set_cons_zero, List.set_cons_succ])
        refine wpAnyH_take (i := 5) (v := .agg (eP p)) rfl ?q05b ?q05c ?q05d (fun _ _ _ h => h) ?q05e s0 ?q05f
        case q05b => kernel_rfl
        case q05c => kernel_rfl
        case q05d => kernel_rfl
        case q05e => exact yields_row (by kernel_rfl) 42 (.tmp 4) rfl g4 rfl 42 (eP p) (0, 0) _ (fun w' hw => (HSx.out w' hw).1) Tryz.underlying42 rfl (infoEP HP.out)
        (try simp only [Act.put, List.getElem_toArray, List.getElem_cons_succ, List.getElem_cons_zero, List.setIfInBounds_toArray, List.set_cons_zero, List.set_cons_succ])
        refine held_step (i := 6) (by kernel_rfl) rfl (by kernel_rfl) (fun K hK => ?_)
        go_simp
        refine (search_cmp e p (HL.out e (List.mem_of_getElem? HE.out)) HP.out B sb so tB t _ (k + (m : Int)) wr.drew HD.out.box HD.out.cnt HCK.out).mono ?_
        rintro r w6 ⟨rfl, ht⟩
        rw [EK.out] at ht
        have HST2 := Aside0.mk (bs_ticks HD.out HN4.out HNE.out.1 HNE.out.2 ht)
        have s1 : S w6 := HSy.out _ (m + 1) HST2.out
        clear ht
        refine hK.out _ _ s1 ?_
        clear hK K
        (try simp only [Act.put, List.getElem_toArray, List.getElem_cons_succ, List.getElem_cons_zero, List.setIfInBounds_toArray, List.set_cons_zero, List.set_cons_succ])
        refine held_step (i := 7) (by kernel_rfl) rfl (by kernel_rfl) (fun K hK => ?_)
        go_wp2
        refine hK.out _ _ s1 ?_
        clear hK K
        (try simp only [Act.put, List.getElem_toArray, List.getElem_cons_succ, List.getElem_cons_zero, List.setIfInBounds_toArray, List.set_cons_zero, List.set_cons_succ])
        refine wpAnyH_done (by kernel_rfl) ?_ _
        clear s0 s1
        go_wp2
        go_roundw
        case rel => exact ⟨h + 1, hi, m + 1, (by first | rfl | exact congrArg (Value.int .i64) HE4.out), rfl, ⟨by have := HI.out; have := HH.out; have := HLT.out; omega, HI.out.2.1, by
            have h1 := HI.out.2.2
            have h2 := blen_pos (show 0 < hi - lo by have := HLT.out; omega)
            have h3 := blen_mono (hi - (h + 1)) ((hi - lo) / 2) (by have := HH.out; have := HLT.out; omega)
            omega⟩, ⟨fun j x hj hx => HMO.out j h x e (by omega) hx HE.out HC.out⟩, HHI, HST2⟩
        case measure =>
          rw [HE4.out]
          show ((hi : Int)).toNat - (((h + 1 : Nat) : Int)).toNat < ((hi : Int)).toNat - ((lo : Int)).toNat
          rw [Int.toNat_natCast, Int.toNat_natCast, Int.toNat_natCast]
          have := HH.out; have := HLT.out; omega
      · have c4b0 : decide (cmpP e.p p < 0) = false := decide_eq_false hc
        have HC := Aside0.mk (Int.not_lt.1 hc)
        clear hc
        go_wp2
        obtain ⟨S, hS⟩ : ∃ S : World → Prop, S = fun w' => ∃ m' : Nat, Bs w g4 B sb so G p tB t cs l w' (k + (m' : Int)) := ⟨_, rfl⟩
        have HSx := Aside0.mk (show ∀ x : World, S x → x.heap[g4]? = some (.cells (eP p) 42 (0, 0)) ∧ ∀ (i : Nat) (e : En), l[i]? = some e → x.rangeAt G (i * 19) (lE e) by
          intro b h
          rw [hS] at h
          obtain ⟨m', h⟩ := h
          exact ⟨h.tgt, h.at_⟩)
        have HSy := Aside0.mk (show ∀ (x : World) (m' : Nat), Bs w g4 B sb so G p tB t cs l x (k + (m' : Int)) → S x by
          intro b m' h
          rw [hS]
          exact ⟨m', h⟩)
        clear hS
        have HD := Aside0.mk (bs_below HST.out (show Below wr.heap.size wr wr.drew from bel_later (Below.refl _ _)))
        have s0 : S wr.drew := HSy.out _ m HD.out
        refine wp_region_held_drew (S := S) (by kernel_rfl) s0 (fun _ => ?_)
        refine wpAnyH_take (i := 0) (v := .func (.func 80) #[] #[.pointer (some ⟨B, 0, none⟩)]) rfl (by kernel_rfl) (by kernel_rfl) (by kernel_rfl) (fun _ _ _ h => h) (Or.inl ⟨by kernel_rfl, fun w' hw => by first | (go_simp; done) | (go_simp; rfl)⟩) s0 ?_
        (try simp only [Act.put, List.getElem_toArray, List.getElem_cons_succ, List.getElem_cons_zero, List.setIfInBounds_toArray, List.set_cons_zero, List.set_cons_succ])
        refine wpAnyH_take (i := 1) (v := .slice A n cap) rfl (by kernel_rfl) (by kernel_rfl) (by kernel_rfl) (fun _ _ _ h => h) (Or.inl ⟨by kernel_rfl, fun w' hw => by first | (go_simp; done) | (go_simp; rfl)⟩) s0 ?_
        (try simp only [Act.put, List.getElem_toArray, List.getElem_cons_succ, List.getElem_cons_zero, List.setIfInBounds_toArray, List.set_cons_zero, List.set_cons_succ])
        refine wpAnyH_take (i := 2) (v := .int .i64 (h : Int)) rfl (by kernel_rfl) (by kernel_rfl) (by kernel_rfl) (fun _ _ _ h => h) (Or.inl ⟨by kernel_rfl, fun w' hw => by first | (go_simp; done) | (go_simp; rfl)⟩) s0 ?_
        (try simp only [Act.put, List.getElem_toArray, List.getElem_cons_succ, List.getElem_cons_zero, List.setIfInBounds_toArray, List.set_cons_zero, List.set_cons_succ])
        refine wpAnyH_take (i := 3) (v := .pointer (some ⟨G, h * 19, none⟩)) rfl (by kernel_rfl) (by kernel_rfl) (by kernel_rfl) (fun _ _ _ h => h) (Or.inl ⟨by kernel_rfl, fun w' hw => by have hf := HRD.out.idx w' h HHN.out; first | (go_simp; done) | (go_simp; rfl)⟩) s0 ?_
        (try simp only [Act.put, List.getElem_toArray, List.getElem_cons_succ, List.getElem_cons_zero, List.setIfInBounds_toArray, List.set_cons_zero, List.set_cons_succ])
        refine wpAnyH_take (i := 4) (v := .agg (lE e).toArray) rfl ?m14b ?m14c ?m14d (fun _ _ _ h => h) ?m14e s0 ?m14f
        case m14b => kernel_rfl
        case m14c => kernel_rfl
        case m14d => kernel_rfl
        case m14e =>
          refine yieldsIf_load_mid ?m14g 44 (.tmp 27) ?m14h G (h * 19) ?m14i (lE e) _ ?m14j Tryz.underlying44 ?m14k ((show (Tryz.prog.info? 44).map (·.size) = some (lE e).length by rw [lE_len (HL.out e (List.mem_of_getElem? HE.out))]; exact infoEn))
          case m14g => kernel_rfl
          case m14h => kernel_rfl
          case m14i => kernel_rfl
          case m14k => kernel_rfl
          case m14j => exact fun w' hw => (HSx.out w' hw).2 h e HE.out
        (try simp only [Act.put, List.getElem_toArray, List.getElem_cons_succ, List.getElem_cons_zero, List.setIfInBounds_toArray, List.set_cons_zero, List.set_cons_succ])
        refine wpAnyH_take (i := 5) (v := .agg (eP p)) rfl ?q15b ?q15c ?q15d (fun _ _ _ h => h) ?q15e s0 ?q15f
        case q15b => kernel_rfl
        case q15c => kernel_rfl
        case q15d => kernel_rfl
        case q15e => exact yields_row (by kernel_rfl) 42 (.tmp 4) rfl g4 rfl 42 (eP p) (0, 0) _ (fun w' hw => (HSx.out w' hw).1) Tryz.underlying42 rfl (infoEP HP.out)
        (try simp only [Act.put, List.getElem_toArray, List.getElem_cons_succ, List.getElem_cons_zero, List.setIfInBounds_toArray, List.set_cons_zero, List.set_cons_succ])
        refine held_step (i := 6) (by kernel_rfl) rfl (by kernel_rfl) (fun K hK => ?_)
        go_simp
        refine (search_cmp e p (HL.out e (List.mem_of_getElem? HE.out)) HP.out B sb so tB t _ (k + (m : Int)) wr.drew HD.out.box HD.out.cnt HCK.out).mono ?_
        rintro r w6 ⟨rfl, ht⟩
        rw [EK.out] at ht
        have HST2 := Aside0.mk (bs_ticks HD.out HN4.out HNE.out.1 HNE.out.2 ht)
        have s1 : S w6 := HSy.out _ (m + 1) HST2.out
        clear ht
        refine hK.out _ _ s1 ?_
        clear hK K
        (try simp only [Act.put, List.getElem_toArray, List.getElem_cons_succ, List.getElem_cons_zero, List.setIfInBounds_toArray, List.set_cons_zero, List.set_cons_succ])
        refine held_step (i := 7) (by kernel_rfl) rfl (by kernel_rfl) (fun K hK => ?_)
        go_wp2
        refine hK.out _ _ s1 ?_
        clear hK K
        (try simp only [Act.put, List.getElem_toArray, List.getElem_cons_succ, List.getElem_cons_zero, List.setIfInBounds_toArray, List.set_cons_zero, List.set_cons_succ])
        refine wpAnyH_done (by kernel_rfl) ?_ _
        clear s0 s1
        go_wp2
        go_roundw
        case rel => exact ⟨lo, h, m + 1, rfl, rfl, ⟨by have := HI.out; have := HH.out; have := HLT.out; omega, Nat.le_of_lt HHN.out, by
            have h1 := HI.out.2.2
            have h2 := blen_pos (show 0 < hi - lo by have := HLT.out; omega)
            have h3 := blen_mono (h - lo) ((hi - lo) / 2) (by have := HH.out; have := HLT.out; omega)
            omega⟩, HLO, ⟨fun j x hj hx => Int.not_lt.1 (fun hneg => absurd (HMO.out h j e x hj HE.out hx hneg) (Int.not_lt.2 HC.out))⟩, HST2⟩
        case measure =>
          show ((h : Int)).toNat - ((lo : Int)).toNat < ((hi : Int)).toNat - ((lo : Int)).toNat
          rw [Int.toNat_natCast, Int.toNat_natCast, Int.toNat_natCast]
          have := HH.out; have := HLT.out; omega
    · obtain rfl : hi = lo := by have := HI.out.1; omega
      have c0 : decide ((hi : Int) < (hi : Int)) = false := decide_eq_false (by omega)
      clear hlt
      have HCK := Aside0.mk (show (cs.setIfInBounds so (.int .i64 (k + (m : Int))))[so]? = some (.int .i64 (k + (m : Int))) by
        rw [Array.getElem?_setIfInBounds, if_pos rfl, if_pos (Array.getElem?_eq_some_iff.1 HKK.out).1])
      have EK := Aside0.mk (wrap_cnt k m HNN.out.2.1 HNN.out.2.2 (by have := HI.out.2.2; have := blen_le n; have := HNN.out.1; omega))
      by_cases hn2 : hi < n
      · have c5b0 : decide ((hi : Int) < (n : Int)) = true := decide_eq_true (by omega)
        have c5b1 : decide (hi < n) = true := decide_eq_true hn2
        obtain ⟨e, he⟩ : ∃ e, l[hi]? = some e := ⟨l[hi]'(by have := HRD.out.len; omega), List.getElem?_eq_getElem _⟩
        have HE := Aside0.mk he
        have HHN := Aside0.mk hn2
        clear hn2 he
        go_wp2
        obtain ⟨S, hS⟩ : ∃ S : World → Prop, S = fun w' => ∃ m' : Nat, Bs w g4 B sb so G p tB t cs l w' (k + (m' : Int)) := ⟨_, rfl⟩
        have HSx := Aside0.mk (show ∀ x : World, S x → x.heap[g4]? = some (.cells (eP p) 42 (0, 0)) ∧ ∀ (i : Nat) (e : En), l[i]? = some e → x.rangeAt G (i * 19) (lE e) by
          intro b h
          rw [hS] at h
          obtain ⟨m', h⟩ := h
          exact ⟨h.tgt, h.at_⟩)
        have HSy := Aside0.mk (show ∀ (x : World) (m' : Nat), Bs w g4 B sb so G p tB t cs l x (k + (m' : Int)) → S x by
          intro b m' h
          rw [hS]
          exact ⟨m', h⟩)
        clear hS
        have HD := Aside0.mk (bs_below HST.out (show Below wr.heap.size wr wr.drew from bel_later (Below.refl _ _)))
        have s0 : S wr.drew := HSy.out _ m HD.out
        refine wp_region_held_drew (S := S) (by kernel_rfl) s0 (fun _ => ?_)
        refine wpAnyH_take (i := 0) (v := .int .i64 (hi : Int)) rfl (by kernel_rfl) (by kernel_rfl) (by kernel_rfl) (fun _ _ _ h => h) (Or.inl ⟨by kernel_rfl, fun w' h => by first | (go_simp; done) | (go_simp; rfl)⟩) s0 ?_
        (try simp only [Act.put, List.getElem_toArray, List.getElem_cons_succ, List.getElem_cons_zero, List.setIfInBounds_toArray, List.set_cons_zero, List.set_cons_succ])
        refine wpAnyH_take (i := 1) (v := .int .i64 (hi : Int)) rfl (by kernel_rfl) (by kernel_rfl) (by kernel_rfl) (fun _ _ _ h => h) (Or.inl ⟨by kernel_rfl, fun w' h => by first | (go_simp; done) | (go_simp; rfl)⟩) s0 ?_
        (try simp only [Act.put, List.getElem_toArray, List.getElem_cons_succ, List.getElem_cons_zero, List.setIfInBounds_toArray, List.set_cons_zero, List.set_cons_succ])
        refine wpAnyH_take (i := 2) (v := .int .i64 (n : Int)) rfl (by kernel_rfl) (by kernel_rfl) (by kernel_rfl) (fun _ _ _ h => h) (Or.inl ⟨by kernel_rfl, fun w' h => by first | (go_simp; done) | (go_simp; rfl)⟩) s0 ?_
        (try simp only [Act.put, List.getElem_toArray, List.getElem_cons_succ, List.getElem_cons_zero, List.setIfInBounds_toArray, List.set_cons_zero, List.set_cons_succ])
        refine wpAnyH_take (i := 3) (v := .bool true) rfl (by kernel_rfl) (by kernel_rfl) (by kernel_rfl) (fun _ _ _ h => h) (Or.inl ⟨by kernel_rfl, fun w' h => by first | (go_simp; done) | (go_simp; rfl)⟩) s0 ?_
        (try simp only [Act.put, List.getElem_toArray, List.getElem_cons_succ, List.getElem_cons_zero, List.setIfInBounds_toArray, List.set_cons_zero, List.set_cons_succ])
        refine wpAnyH_take (i := 4) (v := .bool true) rfl (by kernel_rfl) (by kernel_rfl) (by kernel_rfl) (fun _ _ _ h => h) (Or.inl ⟨by kernel_rfl, fun w' h => by first | (go_simp; done) | (go_simp; rfl)⟩) s0 ?_
        (try simp only [Act.put, List.getElem_toArray, List.getElem_cons_succ, List.getElem_cons_zero, List.setIfInBounds_toArray, List.set_cons_zero, List.set_cons_succ])
        refine wpAnyH_take (i := 5) (v := .func (.func 80) #[] #[.pointer (some ⟨B, 0, none⟩)]) rfl (by kernel_rfl) (by kernel_rfl) (by kernel_rfl) (fun _ _ _ h => h) (Or.inl ⟨by kernel_rfl, fun w' h => by first | (go_simp; done) | (go_simp; rfl)⟩) s0 ?_
        (try simp only [Act.put, List.getElem_toArray, List.getElem_cons_succ, List.getElem_cons_zero, List.setIfInBounds_toArray, List.set_cons_zero, List.set_cons_succ])
        refine wpAnyH_take (i := 6) (v := .slice A n cap) rfl (by kernel_rfl) (by kernel_rfl) (by kernel_rfl) (fun _ _ _ h => h) (Or.inl ⟨by kernel_rfl, fun w' h => by first | (go_simp; done) | (go_simp; rfl)⟩) s0 ?_
        (try simp only [Act.put, List.getElem_toArray, List.getElem_cons_succ, List.getElem_cons_zero, List.setIfInBounds_toArray, List.set_cons_zero, List.set_cons_succ])
        refine wpAnyH_take (i := 7) (v := .int .i64 (hi : Int)) rfl (by kernel_rfl) (by kernel_rfl) (by kernel_rfl) (fun _ _ _ h => h) (Or.inl ⟨by kernel_rfl, fun w' h => by first | (go_simp; done) | (go_simp; rfl)⟩) s0 ?_
        (try simp only [Act.put, List.getElem_toArray, List.getElem_cons_succ, List.getElem_cons_zero, List.setIfInBounds_toArray, List.set_cons_zero, List.set_cons_succ])
        refine wpAnyH_take (i := 8) (v := .pointer (some ⟨G, hi * 19, none⟩)) rfl (by kernel_rfl) (by kernel_rfl) (by kernel_rfl) (fun _ _ _ h => h) (Or.inl ⟨by kernel_rfl, fun w' h => by have hf := HRD.out.idx w' hi HHN.out; first | (go_simp; done) | (go_simp; rfl)⟩) s0 ?_
        (try simp only [Act.put, List.getElem_toArray, List.getElem_cons_succ, List.getElem_cons_zero, List.setIfInBounds_toArray, List.set_cons_zero, List.set_cons_succ])
        refine wpAnyH_take (i := 9) (v := .agg (lE e).toArray) rfl ?m29b ?m29c ?m29d (fun _ _ _ h => h) ?m29e s0 ?m29f
        case m29b => kernel_rfl
        case m29c => kernel_rfl
        case m29d => kernel_rfl
        case m29e =>
          refine yieldsIf_load_mid ?m29g 44 (.tmp 43) ?m29h G (hi * 19) ?m29i (lE e) _ ?m29j Tryz.underlying44 ?m29k ((show (Tryz.prog.info? 44).map (·.size) = some (lE e).length by rw [lE_len (HL.out e (List.mem_of_getElem? HE.out))]; exact infoEn))
          case m29g => kernel_rfl
          case m29h => kernel_rfl
          case m29i => kernel_rfl
          case m29k => kernel_rfl
          case m29j => exact fun w' hw => (HSx.out w' hw).2 hi e HE.out
        (try simp only [Act.put, List.getElem_toArray, List.getElem_cons_succ, List.getElem_cons_zero, List.setIfInBounds_toArray, List.set_cons_zero, List.set_cons_succ])
        refine wpAnyH_take (i := 10) (v := .agg (eP p)) rfl ?q210b ?q210c ?q210d (fun _ _ _ h => h) ?q210e s0 ?q210f
        case q210b => kernel_rfl
        case q210c => kernel_rfl
        case q210d => kernel_rfl
        case q210e => exact yields_row (by kernel_rfl) 42 (.tmp 4) rfl g4 rfl 42 (eP p) (0, 0) _ (fun w' hw => (HSx.out w' hw).1) Tryz.underlying42 rfl (infoEP HP.out)
        (try simp only [Act.put, List.getElem_toArray, List.getElem_cons_succ, List.getElem_cons_zero, List.setIfInBounds_toArray, List.set_cons_zero, List.set_cons_succ])
        refine held_step (i := 11) (by kernel_rfl) rfl (by kernel_rfl) (fun K hK => ?_)
        go_simp
        refine (search_cmp e p (HL.out e (List.mem_of_getElem? HE.out)) HP.out B sb so tB t _ (k + (m : Int)) wr.drew HD.out.box HD.out.cnt HCK.out).mono ?_
        rintro r w6 ⟨rfl, ht⟩
        rw [EK.out] at ht
        have HST2 := Aside0.mk (bs_ticks HD.out HN4.out HNE.out.1 HNE.out.2 ht)
        have s1 : S w6 := HSy.out _ (m + 1) HST2.out
        clear ht
        refine hK.out _ _ s1 ?_
        clear hK K
        (try simp only [Act.put, List.getElem_toArray, List.getElem_cons_succ, List.getElem_cons_zero, List.setIfInBounds_toArray, List.set_cons_zero, List.set_cons_succ])
        refine wpAnyH_take (i := 12) (v := .bool (cmpP e.p p == 0)) rfl (by kernel_rfl) (by kernel_rfl) (by kernel_rfl) (fun _ _ _ h => h) (Or.inl ⟨by kernel_rfl, fun w' h => by first | (go_simp; done) | (go_simp; rfl)⟩) s1 ?_
        (try simp only [Act.put, List.getElem_toArray, List.getElem_cons_succ, List.getElem_cons_zero, List.setIfInBounds_toArray, List.set_cons_zero, List.set_cons_succ])
        refine wpAnyH_take (i := 13) (v := .bool (cmpP e.p p == 0)) rfl (by kernel_rfl) (by kernel_rfl) (by kernel_rfl) (fun _ _ _ h => h) (Or.inl ⟨by kernel_rfl, fun w' h => by first | (go_simp; done) | (go_simp; rfl)⟩) s1 ?_
        (try simp only [Act.put, List.getElem_toArray, List.getElem_cons_succ, List.getElem_cons_zero, List.setIfInBounds_toArray, List.set_cons_zero, List.set_cons_succ])
        refine wpAnyH_take (i := 14) (v := .int .i64 (hi : Int)) rfl (by kernel_rfl) (by kernel_rfl) (by kernel_rfl) (fun _ _ _ h => h) (Or.inl ⟨by kernel_rfl, fun w' h => by first | (go_simp; done) | (go_simp; rfl)⟩) s1 ?_
        (try simp only [Act.put, List.getElem_toArray, List.getElem_cons_succ, List.getElem_cons_zero, List.setIfInBounds_toArray, List.set_cons_zero, List.set_cons_succ])
        refine wpAnyH_take (i := 15) (v := .bool (cmpP e.p p == 0)) rfl (by kernel_rfl) (by kernel_rfl) (by kernel_rfl) (fun _ _ _ h => h) (Or.inl ⟨by kernel_rfl, fun w' h => by first | (go_simp; done) | (go_simp; rfl)⟩) s1 ?_
        (try simp only [Act.put, List.getElem_toArray, List.getElem_cons_succ, List.getElem_cons_zero, List.setIfInBounds_toArray, List.set_cons_zero, List.set_cons_succ])
        refine wpAnyH_done (by kernel_rfl) ?_ _
        clear s0 s1
        go_wp2
        go_ret2
        exact ⟨hi, cmpP e.p p == 0, m + 1, rfl, HST2.out.tck, by have := HI.out.2.2; omega, HI.out.2.1, HLO.out, HHI.out, by
          rw [HE.out, beq_iff_eq]
          exact ⟨fun h => ⟨e, rfl, h⟩, fun ⟨x, h1, h2⟩ => by cases h1; exact h2⟩⟩
      · have c5b0 : decide ((hi : Int) < (n : Int)) = false := decide_eq_false (by omega)
        have c5b1 : decide (hi < n) = false := decide_eq_false hn2
        have HHN := Aside0.mk hn2
        clear hn2
        go_wp2
        obtain ⟨S, hS⟩ : ∃ S : World → Prop, S = fun w' => ∃ m' : Nat, Bs w g4 B sb so G p tB t cs l w' (k + (m' : Int)) := ⟨_, rfl⟩
        have HSx := Aside0.mk (show ∀ x : World, S x → x.heap[g4]? = some (.cells (eP p) 42 (0, 0)) ∧ ∀ (i : Nat) (e : En), l[i]? = some e → x.rangeAt G (i * 19) (lE e) by
          intro b h
          rw [hS] at h
          obtain ⟨m', h⟩ := h
          exact ⟨h.tgt, h.at_⟩)
        have HSy := Aside0.mk (show ∀ (x : World) (m' : Nat), Bs w g4 B sb so G p tB t cs l x (k + (m' : Int)) → S x by
          intro b m' h
          rw [hS]
          exact ⟨m', h⟩)
        clear hS
        have HD := Aside0.mk (bs_below HST.out (show Below wr.heap.size wr wr.drew from bel_later (Below.refl _ _)))
        have s0 : S wr.drew := HSy.out _ m HD.out
        refine wp_region_held_drew (S := S) (by kernel_rfl) s0 (fun _ => ?_)
        refine wpAnyH_take (i := 0) (v := .int .i64 (hi : Int)) rfl (by kernel_rfl) (by kernel_rfl) (by kernel_rfl) (fun _ _ _ h => h) (Or.inl ⟨by kernel_rfl, fun w' h => by first | (go_simp; done) | (go_simp; rfl)⟩) s0 ?_
        (try simp only [Act.put, List.getElem_toArray, List.getElem_cons_succ, List.getElem_cons_zero, List.setIfInBounds_toArray, List.set_cons_zero, List.set_cons_succ])
        refine wpAnyH_take (i := 1) (v := .int .i64 (hi : Int)) rfl (by kernel_rfl) (by kernel_rfl) (by kernel_rfl) (fun _ _ _ h => h) (Or.inl ⟨by kernel_rfl, fun w' h => by first | (go_simp; done) | (go_simp; rfl)⟩) s0 ?_
        (try simp only [Act.put, List.getElem_toArray, List.getElem_cons_succ, List.getElem_cons_zero, List.setIfInBounds_toArray, List.set_cons_zero, List.set_cons_succ])
        refine wpAnyH_take (i := 2) (v := .int .i64 (n : Int)) rfl (by kernel_rfl) (by kernel_rfl) (by kernel_rfl) (fun _ _ _ h => h) (Or.inl ⟨by kernel_rfl, fun w' h => by first | (go_simp; done) | (go_simp; rfl)⟩) s0 ?_
        (try simp only [Act.put, List.getElem_toArray, List.getElem_cons_succ, List.getElem_cons_zero, List.setIfInBounds_toArray, List.set_cons_zero, List.set_cons_succ])
        refine wpAnyH_take (i := 3) (v := .bool false) rfl (by kernel_rfl) (by kernel_rfl) (by kernel_rfl) (fun _ _ _ h => h) (Or.inl ⟨by kernel_rfl, fun w' h => by first | (go_simp; done) | (go_simp; rfl)⟩) s0 ?_
        (try simp only [Act.put, List.getElem_toArray, List.getElem_cons_succ, List.getElem_cons_zero, List.setIfInBounds_toArray, List.set_cons_zero, List.set_cons_succ])
        refine wpAnyH_take (i := 4) (v := .bool false) rfl (by kernel_rfl) (by kernel_rfl) (by kernel_rfl) (fun _ _ _ h => h) (Or.inl ⟨by kernel_rfl, fun w' h => by first | (go_simp; done) | (go_simp; rfl)⟩) s0 ?_
        (try simp only [Act.put, List.getElem_toArray, List.getElem_cons_succ, List.getElem_cons_zero, List.setIfInBounds_toArray, List.set_cons_zero, List.set_cons_succ])
        refine wpAnyH_take (i := 5) (v := undef) rfl (by kernel_rfl) (by kernel_rfl) (by kernel_rfl) (fun _ _ _ h => h) (Or.inr ⟨by kernel_rfl, rfl⟩) s0 ?_
        (try simp only [Act.put, List.getElem_toArray, List.getElem_cons_succ, List.getElem_cons_zero, List.setIfInBounds_toArray, List.set_cons_zero, List.set_cons_succ])
        refine wpAnyH_take (i := 6) (v := undef) rfl (by kernel_rfl) (by kernel_rfl) (by kernel_rfl) (fun _ _ _ h => h) (Or.inr ⟨by kernel_rfl, rfl⟩) s0 ?_
        (try simp only [Act.put, List.getElem_toArray, List.getElem_cons_succ, List.getElem_cons_zero, List.setIfInBounds_toArray, List.set_cons_zero, List.set_cons_succ])
        refine wpAnyH_take (i := 7) (v := undef) rfl (by kernel_rfl) (by kernel_rfl) (by kernel_rfl) (fun _ _ _ h => h) (Or.inr ⟨by kernel_rfl, rfl⟩) s0 ?_
        (try simp only [Act.put, List.getElem_toArray, List.getElem_cons_succ, List.getElem_cons_zero, List.setIfInBounds_toArray, List.set_cons_zero, List.set_cons_succ])
        refine wpAnyH_take (i := 8) (v := undef) rfl (by kernel_rfl) (by kernel_rfl) (by kernel_rfl) (fun _ _ _ h => h) (Or.inr ⟨by kernel_rfl, rfl⟩) s0 ?_
        (try simp only [Act.put, List.getElem_toArray, List.getElem_cons_succ, List.getElem_cons_zero, List.setIfInBounds_toArray, List.set_cons_zero, List.set_cons_succ])
        refine wpAnyH_take (i := 9) (v := undef) rfl (by kernel_rfl) (by kernel_rfl) (by kernel_rfl) (fun _ _ _ h => h) (Or.inr ⟨by kernel_rfl, rfl⟩) s0 ?_
        (try simp only [Act.put, List.getElem_toArray, List.getElem_cons_succ, List.getElem_cons_zero, List.setIfInBounds_toArray, List.set_cons_zero, List.set_cons_succ])
        refine wpAnyH_take (i := 10) (v := undef) rfl (by kernel_rfl) (by kernel_rfl) (by kernel_rfl) (fun _ _ _ h => h) (Or.inr ⟨by kernel_rfl, rfl⟩) s0 ?_
        (try simp only [Act.put, List.getElem_toArray, List.getElem_cons_succ, List.getElem_cons_zero, List.setIfInBounds_toArray, List.set_cons_zero, List.set_cons_succ])
        refine wpAnyH_take (i := 11) (v := undef) rfl (by kernel_rfl) (by kernel_rfl) (by kernel_rfl) (fun _ _ _ h => h) (Or.inr ⟨by kernel_rfl, rfl⟩) s0 ?_
        (try simp only [Act.put, List.getElem_toArray, List.getElem_cons_succ, List.getElem_cons_zero, List.setIfInBounds_toArray, List.set_cons_zero, List.set_cons_succ])
        refine wpAnyH_take (i := 12) (v := undef) rfl (by kernel_rfl) (by kernel_rfl) (by kernel_rfl) (fun _ _ _ h => h) (Or.inr ⟨by kernel_rfl, rfl⟩) s0 ?_
        (try simp only [Act.put, List.getElem_toArray, List.getElem_cons_succ, List.getElem_cons_zero, List.setIfInBounds_toArray, List.set_cons_zero, List.set_cons_succ])
        refine wpAnyH_take (i := 13) (v := .bool false) rfl (by kernel_rfl) (by kernel_rfl) (by kernel_rfl) (fun _ _ _ h => h) (Or.inl ⟨by kernel_rfl, fun w' h => by first | (go_simp; done) | (go_simp; rfl)⟩) s0 ?_
        (try simp only [Act.put, List.getElem_toArray, List.getElem_cons_succ, List.getElem_cons_zero, List.setIfInBounds_toArray, List.set_cons_zero, List.set_cons_succ])
        refine wpAnyH_take (i := 14) (v := .int .i64 (hi : Int)) rfl (by kernel_rfl) (by kernel_rfl) (by kernel_rfl) (fun _ _ _ h => h) (Or.inl ⟨by kernel_rfl, fun w' h => by first | (go_simp; done) | (go_simp; rfl)⟩) s0 ?_
        (try simp only [Act.put, List.getElem_toArray, List.getElem_cons_succ, List.getElem_cons_zero, List.setIfInBounds_toArray, List.set_cons_zero, List.set_cons_succ])
        refine wpAnyH_take (i := 15) (v := .bool false) rfl (by kernel_rfl) (by kernel_rfl) (by kernel_rfl) (fun _ _ _ h => h) (Or.inl ⟨by kernel_rfl, fun w' h => by first | (go_simp; done) | (go_simp; rfl)⟩) s0 ?_
        (try simp only [Act.put, List.getElem_toArray, List.getElem_cons_succ, List.getElem_cons_zero, List.setIfInBounds_toArray, List.set_cons_zero, List.set_cons_succ])
        refine wpAnyH_done (by kernel_rfl) ?_ _
        clear s0
        go_wp2
        go_ret2
        exact ⟨hi, false, m, rfl, HD.out.tck, by have := HI.out.2.2; omega, HI.out.2.1, HLO.out, HHI.out, by
          constructor
          · intro h; cases h
          · rintro ⟨x, h1, _⟩
            have := (List.getElem?_eq_some_iff.1 h1).1
            have := HRD.out.len
            have := HHN.out
            omega⟩
/-- Where a prefix stands among entries, or would, and whether it is there. -/
structure Found (l : List En) (p : Pf) (i : Nat) (b : Bool) : Prop where
  le : i ≤ l.length
  lo : ∀ (j : Nat) (x : En), j < i → l[j]? = some x → cmpP x.p p < 0
  hi : ∀ (j : Nat) (x : En), i ≤ j → l[j]? = some x → 0 ≤ cmpP x.p p
  is : b = true ↔ ∃ x, l[i]? = some x ∧ cmpP x.p p = 0
/-- What stands ahead of a prefix stands ahead of all that does not. -/
abbrev Mono (l : List En) (p : Pf) : Prop := ∀ (i j : Nat) (x y : En), i ≤ j → l[i]? = some x → l[j]? = some y → cmpP y.p p < 0 → cmpP x.p p < 0
theorem rd_below {w w' : World} {ty : TypeId} {A : Option Addr} {n cap G : Nat} {l : List En} (h : Rd w ty A n cap G l) (hb : Below w.heap.size w w') : Rd w' ty A n cap G l :=
  ⟨h.len, h.idx, fun i e he => range_below (h.at_ i e he) hb⟩
theorem ticks_new {B sb so : Nat} {a b c : World} {k : Int} (hb : Below B a b) (h : Ticks sb so b c k) (hB : B ≤ sb) (hs : B ≤ a.heap.size) : Below B a c :=
  ⟨h.os.trans hb.os, h.tape.trans hb.tape, h.output.trans hb.output, Nat.le_trans hb.size h.size, fun x hx => (h.block x (Nat.lt_of_lt_of_le (Nat.lt_of_lt_of_le hx hs) hb.size) (by omega)).trans (hb.block x hx)⟩
set_option maxHeartbeats 4000000 in
set_option maxRecDepth 100000 in
theorem table_search (A : Option Addr) (n cap G : Nat) (l : List En) (hl : okE l) (p : Pf) (hp : p.a.ok) (sb so : Nat) (t : TypeId) (cs : Array Value) (k : Int) (w : World)
    (hrd : Rd w 23 A n cap G l) (hs : w.heap[sb]? = some (.cells cs t (0, 0))) (hk : cs[so]? = some (.int .i64 k)) (hGs : G ≠ sb) (hn : n ≤ 1000000) (hk0 : 0 ≤ k) (hk1 : k ≤ 1000000000) (hmono : Mono l p) :
    Calls Tryz.prog 49 #[.slice A n cap, .agg (eP p), .pointer (some ⟨sb, so, none⟩)] w fun r w' => ∃ (i : Nat) (b : Bool) (m : Nat), r = .returned (.tuple #[.int .i64 (i : Int), .bool b]) ∧ Ticks sb so w w' (k + (m : Int)) ∧ m ≤ blen n + 1 ∧ Found l p i b := by
  have HB := Aside0.mk (Below.refl w.heap.size w)
  have HP := Aside0.mk hp
  have HL := Aside0.mk hl
  have HRD := Aside0.mk hrd
  have HSB := Aside0.mk hs
  have HS := Aside0.mk hs
  have HKK := Aside0.mk hk
  have HNN := Aside0.mk (show G ≠ sb ∧ n ≤ 1000000 ∧ 0 ≤ k ∧ k ≤ 1000000000 from ⟨hGs, hn, hk0, hk1⟩)
  have HMO := Aside0.mk hmono
  clear hp hl hrd hs hk hGs hn hk0 hk1 hmono
  go_enter Tryz.func49, Tryz.ntmps49
  go_wp2_with (first
    | ((with_reducible refine gate_dst (N := 4) rfl ?_); refine box_event ?hg (N := 4) ?hd (cs := eP p) (t := 42) ?hr ?_; (case hd => rfl); (case hg => rfl); (case hr => first | (go_simp; done) | (go_simp; rfl)); intro g4 hg w1 hbox hb; have HX := Aside0.mk hbox; replace HSB := Aside0.mk (blk_below (blk_later HSB.out) hb); replace HB := Aside0.mk (below_step (bel_later HB.out) hb); clear hb hg hbox)
    | ((with_reducible refine gate_dst (N := 5) rfl ?_); refine box_event ?hg (N := 5) ?hd (cs := #[.pointer (some ⟨sb, so, none⟩)]) (t := 101) ?hr ?_; (case hd => rfl); (case hg => rfl); (case hr => first | (go_simp; done) | (go_simp; rfl)); intro g5 hg w2 hbox hb; have HY := Aside0.mk hbox; have HN5 := Aside0.mk (show g5 ≠ sb by rw [hg]; exact Ne.symm (Nat.ne_of_lt (blk_lt (blk_later HSB.out)))); replace HX := Aside0.mk (blk_below (blk_later HX.out) hb); replace HSB := Aside0.mk (blk_below (blk_later HSB.out) hb); replace HB := Aside0.mk (below_step (bel_later HB.out) hb); clear hb hg hbox)
    | ((with_reducible refine gate_dst (N := 9) rfl ?_); refine wpList_load_row rfl 42 (.tmp 4) rfl g4 rfl 42 (eP p) (0, 0) _ HX.out Tryz.underlying42 rfl (infoEP HP.out) ?_)
    | (go_at_call 79; refine (bin_search A n cap G l HL.out p HP.out g5 sb so 101 t cs k _ (rd_below HRD.out HB.out) HY.out HSB.out HKK.out HN5.out HNN.out.1 HNN.out.2.1 HNN.out.2.2.1 HNN.out.2.2.2 HMO.out).mono ?_; rintro r w3 ⟨i, b, m, rfl, h1, h2, h3, h4, h5, h6⟩; have HT := Aside0.mk (below_ticks HS.out HB.out h1); have HF := Aside0.mk (show m ≤ blen n + 1 ∧ Found l p i b from ⟨h2, by rw [HRD.out.len]; exact h3, h4, h5, h6⟩); clear h1 h2 h3 h4 h5 h6))
  go_ret2
  exact ⟨i, b, m, rfl, HT.out, HF.out.1, HF.out.2⟩
set_option maxHeartbeats 4000000 in
set_option maxRecDepth 100000 in
theorem table_at (T : Nat) (st : Int) (A : Option Addr) (n cap G : Nat) (l : List En) (hl : okE l) (p : Pf) (hp : p.a.ok) (w : World)
    (hT : w.heap[T]? = some (.cells #[.slice A n cap, .int .i64 st] 98 (0, 0))) (hrd : Rd w 23 A n cap G l) (hG : G < w.heap.size) (hn : n ≤ 1000000) (hmono : Mono l p) :
    Calls Tryz.prog 46 #[.pointer (some ⟨T, 0, none⟩), .agg (eP p)] w fun r w' => ∃ (i : Nat) (b : Bool), r = .returned (.tuple #[.int .i64 (i : Int), .bool b]) ∧ Below w.heap.size w w' ∧ Found l p i b := by
  have HB := Aside0.mk (Below.refl w.heap.size w)
  have HP := Aside0.mk hp
  have HL := Aside0.mk hl
  have HRD := Aside0.mk hrd
  have HT0 := Aside0.mk hT
  have HT := Aside0.mk hT
  have HNN := Aside0.mk (show G < w.heap.size ∧ n ≤ 1000000 from ⟨hG, hn⟩)
  have HMO := Aside0.mk hmono
  clear hp hl hrd hT hG hn hmono
  go_enter Tryz.func46, Tryz.ntmps46
  go_wp2_with (first
    | ((with_reducible refine gate_dst (N := 3) rfl ?_); refine box_event ?hg (N := 3) ?hd (cs := eP p) (t := 42) ?hr ?_; (case hd => rfl); (case hg => rfl); (case hr => first | (go_simp; done) | (go_simp; rfl)); intro g3 hg w1 hbox hb; have HX := Aside0.mk hbox; replace HT := Aside0.mk (blk_below (blk_later HT.out) hb); replace HB := Aside0.mk (below_step (bel_later HB.out) hb); clear hb hg hbox)
    | ((with_reducible refine gate_dst (N := 6) rfl ?_); refine box_event ?hg (N := 6) ?hd (cs := #[.int .i64 0]) (t := 3) ?hr ?_; (case hd => rfl); (case hg => rfl); (case hr => first | (go_simp; done) | (go_simp; rfl)); intro g6 hg w2 hbox hb; have HY := Aside0.mk hbox; have HN3 := Aside0.mk (show g3 ≠ g6 by rw [hg]; exact Nat.ne_of_lt (blk_lt (blk_later HX.out))); have HG6 := Aside0.mk (show w.heap.size ≤ g6 by rw [hg]; exact below_size (bel_later HB.out)); replace HX := Aside0.mk (blk_below (blk_later HX.out) hb); replace HT := Aside0.mk (blk_below (blk_later HT.out) hb); replace HB := Aside0.mk (below_step (bel_later HB.out) hb); have h0 : w2.cell? ⟨T, 0, none⟩ = some (.slice A n cap) := blk_cell HT.out 0; clear hb hg hbox)
    | ((with_reducible refine gate_dst (N := 11) rfl ?_); refine wpList_load_row rfl 42 (.tmp 3) rfl g3 rfl 42 (eP p) (0, 0) _ HX.out Tryz.underlying42 rfl (infoEP HP.out) ?_))
  (try simp only [Act.put, List.getElem_toArray, List.getElem_cons_succ, List.getElem_cons_zero, List.setIfInBounds_toArray, List.set_cons_zero, List.set_cons_succ])
  obtain ⟨S, hS⟩ : ∃ S : World → Prop, S = fun w' => w'.heap[T]? = some (.cells #[.slice A n cap, .int .i64 st] 98 (0, 0)) ∧ w'.heap[g3]? = some (.cells (eP p) 42 (0, 0)) ∧ Below w.heap.size w w' := ⟨_, rfl⟩
  have HSx := Aside0.mk (show ∀ x : World, S x → x.heap[T]? = some (.cells #[.slice A n cap, .int .i64 st] 98 (0, 0)) ∧ x.heap[g3]? = some (.cells (eP p) 42 (0, 0)) ∧ Below w.heap.size w x by
    intro b h
    rw [hS] at h
    exact h)
  have s0 : S w2.drew := by rw [hS]; exact ⟨blk_later HT.out, blk_later HX.out, bel_later HB.out⟩
  have HSy := Aside0.mk (show ∀ x : World, x.heap[T]? = some (.cells #[.slice A n cap, .int .i64 st] 98 (0, 0)) → x.heap[g3]? = some (.cells (eP p) 42 (0, 0)) → Below w.heap.size w x → S x by intro x h1 h2 h3; rw [hS]; exact ⟨h1, h2, h3⟩)
  clear hS h0
  refine wp_region_held_drew (S := S) (by kernel_rfl) s0 (fun _ => ?_)
  refine wpAnyH_take (i := 0) (v := .pointer (some ⟨T, 0, none⟩)) rfl (by kernel_rfl) (by kernel_rfl) (by kernel_rfl) (fun _ _ _ h => h) (Or.inl ⟨by kernel_rfl, fun w' h => by first | (go_simp; done) | (go_simp; rfl)⟩) s0 ?_
  (try simp only [Act.put, List.getElem_toArray, List.getElem_cons_succ, List.getElem_cons_zero, List.setIfInBounds_toArray, List.set_cons_zero, List.set_cons_succ])
  refine wpAnyH_take (i := 1) (v := .pointer (some ⟨T, 0, none⟩)) rfl (by kernel_rfl) (by kernel_rfl) (by kernel_rfl) (fun _ _ _ h => h) (Or.inl ⟨by kernel_rfl, fun w' h => by first | (go_simp; done) | (go_simp; rfl)⟩) s0 ?_
  (try simp only [Act.put, List.getElem_toArray, List.getElem_cons_succ, List.getElem_cons_zero, List.setIfInBounds_toArray, List.set_cons_zero, List.set_cons_succ])
  refine wpAnyH_take (i := 2) (v := .pointer (some ⟨T, 0, none⟩)) rfl (by kernel_rfl) (by kernel_rfl) (by kernel_rfl) (fun _ _ _ h => h) (Or.inl ⟨by kernel_rfl, fun w' h => by first | (go_simp; done) | (go_simp; rfl)⟩) s0 ?_
  (try simp only [Act.put, List.getElem_toArray, List.getElem_cons_succ, List.getElem_cons_zero, List.setIfInBounds_toArray, List.set_cons_zero, List.set_cons_succ])
  refine wpAnyH_take (i := 3) (v := .slice A n cap) rfl (by kernel_rfl) (by kernel_rfl) (by kernel_rfl) (fun _ _ _ h => h) (Or.inl ⟨by kernel_rfl, fun w' h => by have hf := blk_cell (HSx.out w' h).1 0; first | (go_simp; done) | (go_simp; rfl)⟩) s0 ?_
  (try simp only [Act.put, List.getElem_toArray, List.getElem_cons_succ, List.getElem_cons_zero, List.setIfInBounds_toArray, List.set_cons_zero, List.set_cons_succ])
  refine wpAnyH_take (i := 4) (v := .agg (eP p)) rfl ?q4b ?q4c ?q4d (fun _ _ _ h => h) ?q4e s0 ?q4f
  case q4b => kernel_rfl
  case q4c => kernel_rfl
  case q4d => kernel_rfl
  case q4e => exact yields_row (by kernel_rfl) 42 (.tmp 3) rfl g3 rfl 42 (eP p) (0, 0) _ (fun w' h => (HSx.out w' h).2.1) Tryz.underlying42 rfl (infoEP HP.out)
  (try simp only [Act.put, List.getElem_toArray, List.getElem_cons_succ, List.getElem_cons_zero, List.setIfInBounds_toArray, List.set_cons_zero, List.set_cons_succ])
  have HS2 := Aside0.mk (HSx.out _ s0)
  have HY2 := Aside0.mk (blk_later (b := w2.drew) HY.out)
  have HN := Aside0.mk (show T ≠ g6 ∧ g3 ≠ g6 ∧ G ≠ g6 from ⟨fun e => by have := (Array.getElem?_eq_some_iff.1 HT0.out).1; have := HG6.out; omega, HN3.out, fun e => by have := HNN.out.1; have := HG6.out; omega⟩)
  refine held_step (i := 5) (by kernel_rfl) rfl (by kernel_rfl) (fun K hK => ?_)
  go_simp
  refine (table_search A n cap G l HL.out p HP.out g6 0 3 #[.int .i64 0] 0 w2.drew (rd_below HRD.out HS2.out.2.2) HY2.out rfl HN.out.2.2 HNN.out.2 (by decide) (by decide) HMO.out).mono ?_
  rintro r w3 ⟨i, b, m, rfl, h1, _, h3⟩
  have HF := Aside0.mk h3
  have s1 : S w3 := HSy.out _ (ticks_blk h1 HS2.out.1 HN.out.1) (ticks_blk h1 HS2.out.2.1 HN.out.2.1) (ticks_new HS2.out.2.2 h1 HG6.out (Nat.le_refl _))
  clear h1 h3
  refine hK.out _ _ s1 ?_
  clear hK K
  (try simp only [Act.put, List.getElem_toArray, List.getElem_cons_succ, List.getElem_cons_zero, List.setIfInBounds_toArray, List.set_cons_zero, List.set_cons_succ])
  refine wpAnyH_take (i := 6) (v := .int .i64 (i : Int)) rfl (by kernel_rfl) (by kernel_rfl) (by kernel_rfl) (fun _ _ _ h => h) (Or.inl ⟨by kernel_rfl, fun w' h => by first | (go_simp; done) | (go_simp; rfl)⟩) s1 ?_
  (try simp only [Act.put, List.getElem_toArray, List.getElem_cons_succ, List.getElem_cons_zero, List.setIfInBounds_toArray, List.set_cons_zero, List.set_cons_succ])
  refine wpAnyH_take (i := 7) (v := .bool b) rfl (by kernel_rfl) (by kernel_rfl) (by kernel_rfl) (fun _ _ _ h => h) (Or.inl ⟨by kernel_rfl, fun w' h => by first | (go_simp; done) | (go_simp; rfl)⟩) s1 ?_
  (try simp only [Act.put, List.getElem_toArray, List.getElem_cons_succ, List.getElem_cons_zero, List.setIfInBounds_toArray, List.set_cons_zero, List.set_cons_succ])
  refine wpAnyH_take (i := 8) (v := .int .i64 (i : Int)) rfl (by kernel_rfl) (by kernel_rfl) (by kernel_rfl) (fun _ _ _ h => h) (Or.inl ⟨by kernel_rfl, fun w' h => by first | (go_simp; done) | (go_simp; rfl)⟩) s1 ?_
  (try simp only [Act.put, List.getElem_toArray, List.getElem_cons_succ, List.getElem_cons_zero, List.setIfInBounds_toArray, List.set_cons_zero, List.set_cons_succ])
  refine wpAnyH_take (i := 9) (v := .bool b) rfl (by kernel_rfl) (by kernel_rfl) (by kernel_rfl) (fun _ _ _ h => h) (Or.inl ⟨by kernel_rfl, fun w' h => by first | (go_simp; done) | (go_simp; rfl)⟩) s1 ?_
  (try simp only [Act.put, List.getElem_toArray, List.getElem_cons_succ, List.getElem_cons_zero, List.setIfInBounds_toArray, List.set_cons_zero, List.set_cons_succ])
  refine wpAnyH_done (by kernel_rfl) ?_ _
  have HBF := Aside0.mk (HSx.out _ s1).2.2
  clear s0 s1
  go_wp2
  go_ret2
  exact ⟨i, b, rfl, HBF.out, HF.out⟩
end Go.Proofs.YthdognlkacjkhaaGreatDoor.P
end
section
namespace Go.Proofs.YthdognlkacjkhaaGreatDoor.P
open Go.RowKit Go.Proofs.YthdognlkacjkhaaGreatDoorW.PrintWords Go.Proofs.YthdognlkacjkhaaGreatDoorW.PrintLast Go.Proofs.YthdognlkacjkhaaGreatDoorW.PrintMore
set_option linter.unusedVariables false
set_option linter.unusedSimpArgs false
set_option maxRecDepth 100000 in
theorem idx_en (g n cap i : Nat) (w : World) (hi : i < n) : (Instr.indexAt 23 (.slice (some ⟨g, 0, none⟩) n cap) (.int .i64 (i : Int))).run Tryz.prog w = .ok (.pointer (some ⟨g, i * 19, none⟩)) w := by
  have h0 : (0 : Int) ≤ (i : Int) := Int.natCast_nonneg i
  have h1 : (i : Int) < (n : Int) := by omega
  go_simp
set_option maxRecDepth 100000 in
theorem idx_er (g n cap i : Nat) (w : World) (hi : i < n) : (Instr.indexAt 25 (.slice (some ⟨g, 0, none⟩) n cap) (.int .i64 (i : Int))).run Tryz.prog w = .ok (.pointer (some ⟨g, i * 19, none⟩)) w := by
  have h0 : (0 : Int) ≤ (i : Int) := Int.natCast_nonneg i
  have h1 : (i : Int) < (n : Int) := by omega
  go_simp
theorem rd_of_row {w : World} {base : Nat} {te : TypeId} {v : Value} {l : List En} (h : w.ownsRow base te 19 v l.length (flE l)) (hl : okE l) (ty : TypeId)
    (hidx : ∀ (g n cap i : Nat) (w : World), i < n → (Instr.indexAt ty (.slice (some ⟨g, 0, none⟩) n cap) (.int .i64 (i : Int))).run Tryz.prog w = .ok (.pointer (some ⟨g, i * 19, none⟩)) w) (G0 : Nat) :
    ∃ (A : Option Addr) (cap G : Nat), v = .slice A l.length cap ∧ Rd w ty A l.length cap G l ∧ ((G = G0 ∧ l = []) ∨ ∃ cur, w.heap[G]? = some (.cells cur te (0, 0)) ∧ A = some ⟨G, 0, none⟩ ∧ base ≤ G) := by
  rcases h.2 with ⟨hv, hn⟩ | ⟨g, cap, cur, hv, hb, hg, hc, hm, hs, ht⟩
  · have hl0 : l = [] := List.length_eq_zero_iff.1 hn
    subst hl0
    exact ⟨none, 0, G0, hv, ⟨rfl, fun w i hi => absurd hi (Nat.not_lt_zero _), fun i e he => by simp at he⟩, .inl ⟨rfl, rfl⟩⟩
  · refine ⟨some ⟨g, 0, none⟩, cap, g, hv, ⟨rfl, fun w i hi => hidx g l.length cap i w hi, fun i e he => ?_⟩, .inr ⟨cur, hg, rfl, hb⟩⟩
    exact range_of_block hg ht (fun j u hj => flE_get hl he hj)
/-- A table's state: its row, in order, and how often it was searched. -/
structure Tb (w : World) (T : Nat) (base : Nat) (st : Int) (v : Value) (l : List En) : Prop where
  blk : w.heap[T]? = some (.cells #[v, .int .i64 st] 98 (0, 0))
  row : w.ownsRow base 44 19 v l.length (flE l)
  ok : okE l
abbrev Sorted (l : List En) : Prop := l.Pairwise fun x y => cmpP x.p y.p < 0
theorem tb_below {w w' : World} {T base : Nat} {st : Int} {v : Value} {l : List En} (h : Tb w T base st v l) (hb : Below w.heap.size w w') : Tb w' T base st v l :=
  ⟨blk_below h.blk hb, h.row.kept (row := none) ⟨hb.os, hb.tape, hb.output, hb.size, fun k hk _ => hb.block k hk⟩ (by cases v.ownBlock <;> simp), h.ok⟩
end Go.Proofs.YthdognlkacjkhaaGreatDoor.P
end
section
namespace Go.Proofs.YthdognlkacjkhaaGreatDoor.P
open Go.RowKit Go.Proofs.YthdognlkacjkhaaGreatDoorW.PrintWords Go.Proofs.YthdognlkacjkhaaGreatDoorW.PrintLast Go.Proofs.YthdognlkacjkhaaGreatDoorW.PrintMore
set_option linter.unusedVariables false
set_option linter.unusedSimpArgs false
theorem lexC_self : ∀ x : List Int, lexC x x = 0
  | [] => rfl
  | a :: x => by rw [lexC, if_neg (by omega), if_neg (by omega)]; exact lexC_self x
theorem lexC_eq : ∀ x y : List Int, x.length = y.length → lexC x y = 0 → x = y
  | [], [], _, _ => rfl
  | a :: x, b :: y, hl, h => by
    rw [lexC] at h
    split at h
    · cases h
    · split at h
      · cases h
      · have := lexC_eq x y (by simpa using hl) h
        rw [this, show a = b by omega]
theorem lexC_swap : ∀ x y : List Int, lexC y x = - lexC x y
  | [], [] => rfl
  | [], _ :: _ => rfl
  | _ :: _, [] => rfl
  | a :: x, b :: y => by
    have ih := lexC_swap x y
    have e1 : lexC (b :: y) (a :: x) = if b < a then -1 else if a < b then 1 else lexC y x := rfl
    have e2 : lexC (a :: x) (b :: y) = if a < b then -1 else if b < a then 1 else lexC x y := rfl
    rw [e1, e2, ih]
    by_cases h1 : a < b
    · rw [if_pos h1, if_neg (show ¬ b < a by omega), if_pos h1] <;> rfl
    · by_cases h2 : b < a
      · rw [if_pos h2, if_neg h1, if_pos h2] <;> rfl
      · rw [if_neg h2, if_neg h1, if_neg h1, if_neg h2]
theorem lexC_cons (a b : Int) (x y : List Int) : lexC (a :: x) (b :: y) = orI (cmpI a b) (lexC x y) := by
  have e2 : lexC (a :: x) (b :: y) = if a < b then -1 else if b < a then 1 else lexC x y := rfl
  rw [e2]
  unfold orI cmpI
  by_cases h1 : a < b
  · rw [if_pos h1, if_pos h1, if_pos (by decide)]
  · by_cases h2 : b < a
    · rw [if_neg h1, if_pos h2, if_neg h1, if_pos h2, if_pos (by decide)]
    · rw [if_neg h1, if_neg h2, if_neg h1, if_neg h2, if_neg (by decide)]
theorem lexC_trans : ∀ x y z : List Int, x.length = y.length → y.length = z.length → lexC x y < 0 → lexC y z < 0 → lexC x z < 0
  | [], [], _, _, _, h, _ => absurd h (by decide)
  | a :: x, b :: y, c :: z, h1, h2, h3, h4 => by
    have ih := lexC_trans x y z (by simpa using h1) (by simpa using h2)
    rw [lexC] at h3 h4 ⊢
    by_cases k1 : a < b
    · by_cases k2 : b < c
      · rw [if_pos (show a < c by omega)]; decide
      · by_cases k3 : c < b
        · rw [if_neg k2, if_pos k3] at h4; exact absurd h4 (by decide)
        · rw [if_pos (show a < c by omega)]; decide
    · by_cases k2 : b < a
      · rw [if_neg k1, if_pos k2] at h3; exact absurd h3 (by decide)
      · rw [if_neg k1, if_neg k2] at h3
        by_cases k3 : b < c
        · rw [if_pos (show a < c by omega)]; decide
        · by_cases k4 : c < b
          · rw [if_neg k3, if_pos k4] at h4; exact absurd h4 (by decide)
          · rw [if_neg k3, if_neg k4] at h4
            rw [if_neg (show ¬ a < c by omega), if_neg (show ¬ c < a by omega)]
            exact ih h3 h4
theorem lexC_app : ∀ (x y : List Int) (m n : Int), x.length = y.length → lexC (x ++ [m]) (y ++ [n]) = orI (lexC x y) (cmpI m n)
  | [], [], m, n, _ => by
    show (if m < n then (-1 : Int) else if n < m then 1 else 0) = _
    rfl
  | a :: x, b :: y, m, n, h => by
    have ih := lexC_app x y m n (by simpa using h)
    rw [List.cons_append, List.cons_append, lexC, lexC, ih]
    by_cases h1 : a < b
    · rw [if_pos h1, if_pos h1]; rfl
    · rw [if_neg h1, if_neg h1]
      by_cases h2 : b < a
      · rw [if_pos h2, if_pos h2]; rfl
      · rw [if_neg h2, if_neg h2]
def keyP (p : Pf) : List Int := (p.a.fam :: p.a.bs) ++ [p.n]
theorem keyP_len {p : Pf} (h : p.a.ok) : (keyP p).length = 18 := by unfold keyP; simp [h.1]
theorem cmpP_lex {p q : Pf} (hp : p.a.ok) (hq : q.a.ok) : cmpP p q = lexC (keyP p) (keyP q) := by
  unfold keyP
  rw [lexC_app _ _ _ _ (by simp [hp.1, hq.1]), cmpP_or, cmpA_or hp hq, lexC_cons]
theorem keyP_inj {p q : Pf} (h : keyP p = keyP q) : p = q := by
  obtain ⟨⟨f, b⟩, n⟩ := p
  obtain ⟨⟨g, c⟩, m⟩ := q
  unfold keyP at h
  have h1 := List.append_inj_left' h rfl
  have h2 := List.append_inj_right' h rfl
  simp only [List.cons.injEq] at h1 h2
  obtain ⟨h3, h4⟩ := h1
  obtain ⟨h5, _⟩ := h2
  subst h3; subst h4; subst h5
  rfl
theorem cmpP_zero {p q : Pf} (hp : p.a.ok) (hq : q.a.ok) : cmpP p q = 0 ↔ p = q := by
  rw [cmpP_lex hp hq]
  constructor
  · intro h
    exact keyP_inj (lexC_eq _ _ (by rw [keyP_len hp, keyP_len hq]) h)
  · rintro rfl
    exact lexC_self _
theorem cmpP_swap {p q : Pf} (hp : p.a.ok) (hq : q.a.ok) : cmpP q p = - cmpP p q := by rw [cmpP_lex hp hq, cmpP_lex hq hp, lexC_swap]
theorem cmpP_trans {p q r : Pf} (hp : p.a.ok) (hq : q.a.ok) (hr : r.a.ok) (h1 : cmpP p q < 0) (h2 : cmpP q r < 0) : cmpP p r < 0 := by
  rw [cmpP_lex hp hq] at h1
  rw [cmpP_lex hq hr] at h2
  rw [cmpP_lex hp hr]
  exact lexC_trans _ _ _ (by rw [keyP_len hp, keyP_len hq]) (by rw [keyP_len hq, keyP_len hr]) h1 h2
theorem mono_sorted {l : List En} (hl : okE l) (hs : Sorted l) {p : Pf} (hp : p.a.ok) : Mono l p := by
  intro i j x y hij hx hy h
  by_cases he : i = j
  · subst he
    rw [hx] at hy
    cases hy
    exact h
  · obtain ⟨h1, h2⟩ := List.getElem?_eq_some_iff.1 hx
    obtain ⟨h3, h4⟩ := List.getElem?_eq_some_iff.1 hy
    have := List.pairwise_iff_getElem.1 hs i j h1 h3 (by omega)
    rw [h2, h4] at this
    exact cmpP_trans (hl x (List.mem_of_getElem? hx)) (hl y (List.mem_of_getElem? hy)) hp this h
/-! ### entries told apart by a prefix -/
def ltE (l : List En) (p : Pf) : List En := l.filter fun e => decide (cmpP e.p p < 0)
def gtE (l : List En) (p : Pf) : List En := l.filter fun e => decide (0 < cmpP e.p p)
def setE (l : List En) (p : Pf) (v : Int) : List En := ltE l p ++ ⟨p, v⟩ :: gtE l p
def dropE (l : List En) (p : Pf) : List En := l.filter fun e => !decide (e.p = p)
def getE (l : List En) (p : Pf) : Option En := l.find? fun e => decide (e.p = p)
def hasE (l : List En) (p : Pf) : Bool := l.any fun e => decide (e.p = p)
theorem ok_setE {l : List En} (hl : okE l) {p : Pf} (hp : p.a.ok) (v : Int) : okE (setE l p v) := by
  intro e he
  rcases List.mem_append.1 he with h | h
  · exact hl e ((List.mem_filter.1 h).1)
  · rcases List.mem_cons.1 h with rfl | h
    · exact hp
    · exact hl e ((List.mem_filter.1 h).1)
theorem ok_dropE {l : List En} (hl : okE l) (p : Pf) : okE (dropE l p) := fun e he => hl e (List.mem_filter.1 he).1
theorem sorted_dropE {l : List En} (hs : Sorted l) (p : Pf) : Sorted (dropE l p) := hs.sublist List.filter_sublist
theorem sorted_setE {l : List En} (hl : okE l) (hs : Sorted l) {p : Pf} (hp : p.a.ok) (v : Int) : Sorted (setE l p v) := by
  unfold setE
  refine List.pairwise_append.2 ⟨hs.sublist List.filter_sublist, List.pairwise_cons.2 ⟨fun e he => ?_, hs.sublist List.filter_sublist⟩, fun x hx y hy => ?_⟩
  · obtain ⟨h1, h2⟩ := List.mem_filter.1 he
    have h3 : 0 < cmpP e.p p := of_decide_eq_true h2
    show cmpP p e.p < 0
    rw [cmpP_swap (hl e h1) hp]
    omega
  · obtain ⟨h1, h2⟩ := List.mem_filter.1 hx
    have h3 : cmpP x.p p < 0 := of_decide_eq_true h2
    rcases List.mem_cons.1 hy with rfl | hy
    · exact h3
    · obtain ⟨h4, h5⟩ := List.mem_filter.1 hy
      have h6 : 0 < cmpP y.p p := of_decide_eq_true h5
      exact cmpP_trans (hl x h1) hp (hl y h4) h3 (by rw [cmpP_swap (hl y h4) hp]; omega)
/-- What a search has found parts the entries. -/
theorem found_lt {l : List En} {p : Pf} {i : Nat} {b : Bool} (h : Found l p i b) : ltE l p = l.take i := by
  have h1 : ltE (l.take i) p = l.take i := by
    unfold ltE
    rw [List.filter_eq_self]
    intro e he
    obtain ⟨j, hj, rfl⟩ := List.getElem_of_mem he
    rw [List.getElem_take]
    have hji : j < i := by rw [List.length_take] at hj; omega
    exact decide_eq_true (h.lo j _ hji (List.getElem?_eq_getElem (by rw [List.length_take] at hj; omega)))
  have h2 : ltE (l.drop i) p = [] := by
    unfold ltE
    rw [List.filter_eq_nil_iff]
    intro e he
    obtain ⟨j, hj, rfl⟩ := List.getElem_of_mem he
    rw [List.getElem_drop]
    have := h.hi (i + j) _ (Nat.le_add_right _ _) (List.getElem?_eq_getElem (by rw [List.length_drop] at hj; omega))
    simp only [decide_eq_true_eq]
    omega
  conv => lhs; rw [← List.take_append_drop i l]
  unfold ltE at h1 h2 ⊢
  rw [List.filter_append, h1, h2, List.append_nil]
theorem tail_gt {l : List En} (hl : okE l) (hs : Sorted l) {p : Pf} (hp : p.a.ok) {i : Nat} {x : En} (hx : l[i]? = some x) (h0 : 0 ≤ cmpP x.p p) : ∀ e ∈ l.drop (i + 1), 0 < cmpP e.p p := by
  intro e he
  obtain ⟨j, hj, rfl⟩ := List.getElem_of_mem he
  rw [List.getElem_drop]
  obtain ⟨h1, h2⟩ := List.getElem?_eq_some_iff.1 hx
  have hj2 : i + 1 + j < l.length := by rw [List.length_drop] at hj; omega
  have h3 := List.pairwise_iff_getElem.1 hs i (i + 1 + j) h1 hj2 (by omega)
  rw [h2] at h3
  have ox := hl x (List.mem_of_getElem? hx)
  have oe := hl _ (List.getElem_mem hj2)
  by_cases h4 : 0 < cmpP (l[i + 1 + j]).p p
  · exact h4
  · by_cases h5 : cmpP (l[i + 1 + j]).p p = 0
    · rw [(cmpP_zero oe hp).1 h5] at h3
      omega
    · have := cmpP_trans ox oe hp h3 (by omega)
      omega
theorem found_yes {l : List En} (hl : okE l) (hs : Sorted l) {p : Pf} (hp : p.a.ok) {i : Nat} (h : Found l p i true) : ∃ x, l[i]? = some x ∧ x.p = p ∧ ltE l p = l.take i ∧ gtE l p = l.drop (i + 1) ∧ dropE l p = l.take i ++ l.drop (i + 1) ∧ getE l p = some x ∧ hasE l p = true := by
  obtain ⟨x, hx, h0⟩ := h.is.1 rfl
  have ox := hl x (List.mem_of_getElem? hx)
  have hxp := (cmpP_zero ox hp).1 h0
  obtain ⟨h1, h2⟩ := List.getElem?_eq_some_iff.1 hx
  have ht := tail_gt hl hs hp hx (by omega)
  have hsp : l = l.take i ++ x :: l.drop (i + 1) := by
    conv => lhs; rw [← List.take_append_drop i l, List.drop_eq_getElem_cons h1, h2]
  have hlo : ∀ e ∈ l.take i, cmpP e.p p < 0 := fun e he => by
    obtain ⟨j, hj, rfl⟩ := List.getElem_of_mem he
    rw [List.getElem_take]
    exact h.lo j _ (by rw [List.length_take] at hj; omega) (List.getElem?_eq_getElem (by rw [List.length_take] at hj; omega))
  have hno : ∀ e ∈ l, e.p = p → cmpP e.p p = 0 := fun e he h3 => (cmpP_zero (hl e he) hp).2 h3
  refine ⟨x, hx, hxp, found_lt h, ?_, ?_, ?_, ?_⟩
  · conv => lhs; rw [hsp]
    unfold gtE
    rw [List.filter_append, List.filter_eq_nil_iff.2 (fun e he => by have := hlo e he; simp only [decide_eq_true_eq]; omega), List.filter_cons_of_neg (by simp only [decide_eq_true_eq]; omega), List.nil_append, List.filter_eq_self]
    exact fun e he => decide_eq_true (ht e he)
  · conv => lhs; rw [hsp]
    unfold dropE
    rw [List.filter_append, List.filter_cons_of_neg (by simp [hxp])]
    congr 1
    · rw [List.filter_eq_self]
      intro e he
      have := hlo e he
      have h5 := hno e (List.mem_of_mem_take he)
      simp only [Bool.not_eq_true', decide_eq_false_iff_not]
      intro h6
      have := h5 h6
      omega
    · rw [List.filter_eq_self]
      intro e he
      have := ht e he
      have h5 := hno e (List.mem_of_mem_drop he)
      simp only [Bool.not_eq_true', decide_eq_false_iff_not]
      intro h6
      have := h5 h6
      omega
  · conv => lhs; rw [hsp]
    unfold getE
    rw [List.find?_append, List.find?_eq_none.2 (fun e he => by
      have := hlo e he
      have h5 := hno e (List.mem_of_mem_take he)
      simp only [decide_eq_true_eq]
      intro h6
      have := h5 h6
      omega)]
    simp [hxp]
  · unfold hasE
    rw [List.any_eq_true]
    exact ⟨x, List.mem_of_getElem? hx, decide_eq_true hxp⟩
theorem found_no {l : List En} (hl : okE l) (hs : Sorted l) {p : Pf} (hp : p.a.ok) {i : Nat} (h : Found l p i false) : ltE l p = l.take i ∧ gtE l p = l.drop i ∧ dropE l p = l ∧ getE l p = none ∧ hasE l p = false := by
  have hlo : ∀ e ∈ l.take i, cmpP e.p p < 0 := fun e he => by
    obtain ⟨j, hj, rfl⟩ := List.getElem_of_mem he
    rw [List.getElem_take]
    exact h.lo j _ (by rw [List.length_take] at hj; omega) (List.getElem?_eq_getElem (by rw [List.length_take] at hj; omega))
  have hhi : ∀ e ∈ l.drop i, 0 < cmpP e.p p := by
    by_cases hi : i < l.length
    · have hx : l[i]? = some l[i] := List.getElem?_eq_getElem hi
      have h0 := h.hi i _ (Nat.le_refl _) hx
      have hne : cmpP (l[i]).p p ≠ 0 := fun h1 => by
        have := h.is.2 ⟨l[i], hx, h1⟩
        cases this
      rw [List.drop_eq_getElem_cons hi]
      intro e he
      rcases List.mem_cons.1 he with rfl | he
      · omega
      · exact tail_gt hl hs hp hx h0 e he
    · rw [List.drop_of_length_le (by omega)]
      intro e he
      cases he
  have hno : ∀ e ∈ l, ¬ e.p = p := fun e he h3 => by
    have h4 := (cmpP_zero (hl e he) hp).2 h3
    rw [← List.take_append_drop i l] at he
    rcases List.mem_append.1 he with h5 | h5
    · have := hlo e h5; omega
    · have := hhi e h5; omega
  refine ⟨found_lt h, ?_, ?_, ?_, ?_⟩
  · conv => lhs; rw [← List.take_append_drop i l]
    unfold gtE
    rw [List.filter_append, List.filter_eq_nil_iff.2 (fun e he => by have := hlo e he; simp only [decide_eq_true_eq]; omega), List.nil_append, List.filter_eq_self]
    exact fun e he => decide_eq_true (hhi e he)
  · unfold dropE
    rw [List.filter_eq_self]
    intro e he
    simpa using hno e he
  · unfold getE
    rw [List.find?_eq_none]
    intro e he
    simpa using hno e he
  · unfold hasE
    rw [Bool.eq_false_iff]
    intro h1
    obtain ⟨e, he, h2⟩ := List.any_eq_true.1 h1
    exact hno e he (of_decide_eq_true h2)
/-- How many entries stand ahead of a prefix. -/
def idxE (l : List En) (p : Pf) : Nat := (ltE l p).length
theorem cut_at (q : En → Bool) : ∀ l : List En, l.Pairwise (fun x y => q y = true → q x = true) → ∃ i, i ≤ l.length ∧ l.filter q = l.take i ∧ (∀ e ∈ l.take i, q e = true) ∧ ∀ e ∈ l.drop i, q e = false
  | [], _ => ⟨0, Nat.le_refl _, rfl, fun e he => (by cases he), fun e he => (by cases he)⟩
  | x :: l, h => by
    obtain ⟨h1, h2⟩ := List.pairwise_cons.1 h
    cases hx : q x
    · refine ⟨0, Nat.zero_le _, ?_, fun e he => (by cases he), fun e he => ?_⟩
      · rw [List.take_zero, List.filter_eq_nil_iff]
        intro e he
        rcases List.mem_cons.1 he with rfl | he
        · rw [hx]; decide
        · intro h3
          have := h1 e he h3
          rw [hx] at this
          cases this
      · rcases List.mem_cons.1 he with rfl | he
        · exact hx
        · cases h3 : q e
          · rfl
          · have := h1 e he h3
            rw [hx] at this
            cases this
    · obtain ⟨i, h3, h4, h5, h6⟩ := cut_at q l h2
      refine ⟨i + 1, Nat.succ_le_succ h3, ?_, fun e he => ?_, h6⟩
      · rw [List.filter_cons_of_pos hx, h4, List.take_succ_cons]
      · rw [List.take_succ_cons] at he
        rcases List.mem_cons.1 he with rfl | he
        · exact hx
        · exact h5 e he
theorem found_pure {l : List En} (hl : okE l) (hs : Sorted l) {p : Pf} (hp : p.a.ok) : Found l p (idxE l p) (hasE l p) := by
  obtain ⟨i, h1, h2, h3, h4⟩ := cut_at (fun e => decide (cmpP e.p p < 0)) l (by
    rw [List.pairwise_iff_getElem]
    intro a b ha hb hab h
    have := mono_sorted hl hs hp a b l[a] l[b] (Nat.le_of_lt hab) (List.getElem?_eq_getElem ha) (List.getElem?_eq_getElem hb) (of_decide_eq_true h)
    exact decide_eq_true this)
  have hi : idxE l p = i := by
    unfold idxE ltE
    rw [h2, List.length_take, Nat.min_eq_left h1]
  rw [hi]
  have hlo : ∀ (j : Nat) (x : En), j < i → l[j]? = some x → cmpP x.p p < 0 := fun j x hj hx => of_decide_eq_true (h3 x (List.mem_iff_getElem?.2 ⟨j, by rw [List.getElem?_take, if_pos hj]; exact hx⟩))
  have hhi : ∀ (j : Nat) (x : En), i ≤ j → l[j]? = some x → 0 ≤ cmpP x.p p := fun j x hj hx => by
    have := of_decide_eq_false (h4 x (List.mem_iff_getElem?.2 ⟨j - i, by rw [List.getElem?_drop, show i + (j - i) = j by omega]; exact hx⟩))
    omega
  refine ⟨h1, hlo, hhi, ?_⟩
  constructor
  · intro h
    obtain ⟨e, he, h5⟩ := List.any_eq_true.1 h
    have h6 : cmpP e.p p = 0 := (cmpP_zero (hl e he) hp).2 (of_decide_eq_true h5)
    obtain ⟨j, hj⟩ := List.mem_iff_getElem?.1 he
    have hji : i ≤ j := by
      rcases Nat.lt_or_ge j i with h7 | h7
      · have := hlo j e h7 hj
        omega
      · exact h7
    obtain ⟨h8, h9⟩ := List.getElem?_eq_some_iff.1 hj
    have hil : i < l.length := by omega
    refine ⟨l[i], List.getElem?_eq_getElem hil, ?_⟩
    by_cases hij : i = j
    · subst hij
      rw [h9]
      exact h6
    · have h10 := List.pairwise_iff_getElem.1 hs i j hil h8 (by omega)
      rw [h9, (cmpP_zero (hl e he) hp).1 h6] at h10
      have := hhi i _ (Nat.le_refl _) (List.getElem?_eq_getElem hil)
      omega
  · rintro ⟨x, hx, h0⟩
    have hm := List.mem_of_getElem? hx
    unfold hasE
    rw [List.any_eq_true]
    exact ⟨x, hm, decide_eq_true ((cmpP_zero (hl x hm) hp).1 h0)⟩
theorem found_same {l : List En} {p : Pf} {i j : Nat} {b c : Bool} (h : Found l p i b) (k : Found l p j c) : i = j ∧ b = c := by
  have hij : i = j := by
    rcases Nat.lt_trichotomy i j with h1 | h1 | h1
    · have hl : i < l.length := by have := k.le; omega
      have a := k.lo i _ h1 (List.getElem?_eq_getElem hl)
      have b := h.hi i _ (Nat.le_refl _) (List.getElem?_eq_getElem hl)
      omega
    · exact h1
    · have hl : j < l.length := by have := h.le; omega
      have a := h.lo j _ h1 (List.getElem?_eq_getElem hl)
      have b := k.hi j _ (Nat.le_refl _) (List.getElem?_eq_getElem hl)
      omega
  subst hij
  exact ⟨rfl, by rw [Bool.eq_iff_iff, h.is, k.is]⟩
end Go.Proofs.YthdognlkacjkhaaGreatDoor.P
end
section
namespace Go.Proofs.YthdognlkacjkhaaGreatDoor.P
open Go.RowKit Go.Proofs.YthdognlkacjkhaaGreatDoorW.PrintWords Go.Proofs.YthdognlkacjkhaaGreatDoorW.PrintLast Go.Proofs.YthdognlkacjkhaaGreatDoorW.PrintMore
set_option linter.unusedVariables false
set_option linter.unusedSimpArgs false
set_option maxHeartbeats 4000000 in
theorem tab_at (T base : Nat) (st : Int) (v : Value) (l : List En) (p : Pf) (hp : p.a.ok) (w : World) (ht : Tb w T base st v l) (hs : Sorted l) (hn : l.length ≤ 1000000) :
    Calls Tryz.prog 46 #[.pointer (some ⟨T, 0, none⟩), .agg (eP p)] w fun r w' => r = .returned (.tuple #[.int .i64 (idxE l p : Int), .bool (hasE l p)]) ∧ Below w.heap.size w w' := by
  obtain ⟨A, cap, G, rfl, hrd, hG⟩ := rd_of_row ht.row ht.ok 23 (fun g n cap i w hi => idx_en g n cap i w hi) T
  have hlt : G < w.heap.size := by
    rcases hG with ⟨rfl, _⟩ | ⟨cur, hg, _⟩
    · exact (Array.getElem?_eq_some_iff.1 ht.blk).1
    · exact (Array.getElem?_eq_some_iff.1 hg).1
  refine (table_at T st A l.length cap G l ht.ok p hp w ht.blk hrd hlt hn (mono_sorted ht.ok hs hp)).mono ?_
  rintro r w' ⟨i, b, rfl, h1, h2⟩
  obtain ⟨rfl, rfl⟩ := found_same h2 (found_pure ht.ok hs hp)
  exact ⟨rfl, h1⟩
end Go.Proofs.YthdognlkacjkhaaGreatDoor.P
end
section
namespace Go.Proofs.YthdognlkacjkhaaGreatDoor.P
open Go.RowKit Go.Proofs.YthdognlkacjkhaaGreatDoorW.PrintWords Go.Proofs.YthdognlkacjkhaaGreatDoorW.PrintLast Go.Proofs.YthdognlkacjkhaaGreatDoorW.PrintMore
set_option linter.unusedVariables false
set_option linter.unusedSimpArgs false
/-- The entry of the longest prefix, of so many bits or fewer, that an address is cut down to. -/
def findL (l : List En) (a : Ad) : Nat → Option En
  | 0 => getE l (maskQ a 0)
  | n + 1 => if hasE l (maskQ a ((n + 1 : Nat) : Int)) then getE l (maskQ a ((n + 1 : Nat) : Int)) else findL l a n
def findI (l : List En) (a : Ad) (z : Int) : Option En := if z < 0 then none else findL l a z.toNat
def findQ (l : List En) (a : Ad) : Option En := if a.fam = 0 then none else findI l a (bitsOf a.fam)
theorem get_none {l : List En} {p : Pf} (h : hasE l p = false) : getE l p = none := by
  unfold getE
  rw [List.find?_eq_none]
  intro e he h2
  unfold hasE at h
  rw [List.any_eq_true.2 ⟨e, he, h2⟩] at h
  cases h
theorem findI_yes {l : List En} {a : Ad} {z : Int} (h0 : 0 ≤ z) (h : hasE l (maskQ a z) = true) : findI l a z = getE l (maskQ a z) := by
  obtain ⟨n, rfl⟩ := Int.eq_ofNat_of_zero_le h0
  unfold findI
  rw [if_neg (by omega), Int.toNat_natCast]
  cases n with
  | zero => rfl
  | succ n => rw [findL, if_pos h]
theorem findI_no {l : List En} {a : Ad} {z : Int} (h0 : 0 ≤ z) (h : hasE l (maskQ a z) = false) : findI l a z = findI l a (z - 1) := by
  obtain ⟨n, rfl⟩ := Int.eq_ofNat_of_zero_le h0
  unfold findI
  rw [if_neg (by omega), Int.toNat_natCast]
  cases n with
  | zero => rw [if_pos (by omega)]; exact get_none h
  | succ n =>
    rw [if_neg (by omega), findL, if_neg (by rw [h]; decide)]
    congr 1
    omega
theorem infoEE {e : En} (h : e.p.a.ok) : (Tryz.prog.info? 44).map (·.size) = some (eE e).size := by rw [eE_size h]; exact infoEn
theorem ok_noE : noE.p.a.ok := ok_noA
theorem results_cell_tmp {P : Program} {fn : Func} {p u : Tmp} {ty : TypeId} (h : fn.results = #[.cell p ty, .tmp u]) (tmps : Array Value) (w : World) (g : Nat) (t : TypeId) (cs : Array Value) (fr : Nat × Nat) (d : TypeDesc)
    (hp : tmps.getD p undef = .pointer (some ⟨g, 0, none⟩)) (hg : w.heap[g]? = some (.cells cs t fr))
    (hu : P.underlying ty = some d) (hd : (match d with | .struct _ | .array _ _ => true | _ => false) = true) (hi : (P.info? ty).map (·.size) = some cs.size) :
    (results fn tmps).run P w = .ok (.tuple #[.agg cs, tmps.getD u undef]) w := by
  have hp' : tmps[p]?.getD undef = .pointer (some ⟨g, 0, none⟩) := by simpa using hp
  simp [results, h, hp', asAddr, run_loadVar_row w g t ty cs fr d hg hu hd hi]
theorem ticks_row {sb so : Nat} {w w' : World} {k : Int} (h : Ticks sb so w w' k) {g : Nat} (hg : w.heap.size ≤ g) (hn : g ≠ sb) (cells : Array Value) : Ticks sb so w (w'.setRow g cells) k :=
  ⟨h.os, h.tape, h.output, by rw [row_size]; exact h.size, fun b hb hne => (row_far (show b ≠ g by omega)).trans (h.block b hb hne), fun cs t hc => (row_far (fun e => hn e.symm)).trans (h.same cs t hc)⟩
theorem find_bound {f z : Int} {i m m2 n : Nat} (h1 : z + (i : Int) = bitsOf f) (h2 : 0 ≤ z) (h3 : m ≤ i * (n + 1)) (h4 : m2 ≤ n + 1) : m + m2 ≤ 129 * (n + 1) := by
  have h5 : i ≤ 128 := by have := bitsOf_le f; omega
  have h6 : i * (n + 1) ≤ 128 * (n + 1) := Nat.mul_le_mul_right _ h5
  omega
/-- What Find's world knows. -/
structure Fs (w : World) (T g3 g4 G : Nat) (sl : Value) (st : Int) (a : Ad) (l : List En) (wr : World) (m : Nat) : Prop where
  tgt : wr.heap[g3]? = some (.cells (eA a) 30 (0, 0))
  out : wr.heap[g4]? = some (.cells (eE noE) 44 (0, 0))
  at_ : ∀ (i : Nat) (e : En), l[i]? = some e → wr.rangeAt G (i * 19) (lE e)
  tab : wr.heap[T]? = some (.cells #[sl, .int .i64 (st + (m : Int))] 98 (0, 0))
  tck : Ticks T 1 w wr (st + (m : Int))
theorem fs_below {w : World} {T g3 g4 G : Nat} {sl : Value} {st : Int} {a : Ad} {l : List En} {wr w' : World} {m : Nat} (h : Fs w T g3 g4 G sl st a l wr m) (hb : Below wr.heap.size wr w') : Fs w T g3 g4 G sl st a l w' m :=
  ⟨blk_below h.tgt hb, blk_below h.out hb, fun i e he => range_below (h.at_ i e he) hb, blk_below h.tab hb, ticks_below h.tck hb⟩
theorem fs_ticks {w : World} {T g3 g4 G : Nat} {sl : Value} {st : Int} {a : Ad} {l : List En} {wr w' : World} {m k : Nat} (h : Fs w T g3 g4 G sl st a l wr m) (h1 : g3 ≠ T) (h2 : g4 ≠ T) (h3 : G ≠ T) (ht : Ticks T 1 wr w' (st + (m : Int) + (k : Int))) : Fs w T g3 g4 G sl st a l w' (m + k) := by
  have e : st + (m : Int) + (k : Int) = st + ((m + k : Nat) : Int) := by omega
  rw [e] at ht
  exact ⟨ticks_blk ht h.tgt h1, ticks_blk ht h.out h2, fun i e he => ticks_range ht (h.at_ i e he) h3, ht.same _ _ h.tab, ticks_trans h.tck ht⟩
theorem rd_of_fs {w : World} {T g3 g4 G n cap : Nat} {A : Option Addr} {sl : Value} {st : Int} {a : Ad} {l : List En} {w0 wr : World} {m : Nat} (h : Fs w T g3 g4 G sl st a l wr m) (hr : Rd w0 23 A n cap G l) : Rd wr 23 A n cap G l := ⟨hr.len, hr.idx, h.at_⟩
theorem wrap_dn (z : Int) (h0 : 0 ≤ z) (h1 : z ≤ 1000) : wrap64 (z - 1) = z - 1 := by unfold wrap64; omega
set_option maxHeartbeats 8000000 in
set_option maxRecDepth 100000 in
theorem table_Find (T base : Nat) (st : Int) (v : Value) (l : List En) (a : Ad) (ha : a.ok) (w : World) (ht : Tb w T base st v l) (hs : Sorted l) (hn : l.length ≤ 1000) (hst : 0 ≤ st ∧ st ≤ 100000000) :
    Calls Tryz.prog 26 #[.pointer (some ⟨T, 0, none⟩), .agg (eA a)] w fun r w' => ∃ m : Nat, r = .returned (.tuple #[.agg (eE ((findQ l a).getD noE)), .bool (findQ l a).isSome]) ∧ m ≤ 129 * (blen l.length + 1) ∧ Ticks T 1 w w' (st + (m : Int)) := by
  have HA := Aside0.mk ha
  have HS := Aside0.mk hs
  have HN := Aside0.mk hn
  have HOK := Aside0.mk ht.ok
  have HTB := Aside0.mk ht.blk
  have HST := Aside0.mk hst
  obtain ⟨A, cap, G, rfl, hrd, hG⟩ := rd_of_row ht.row ht.ok 23 (fun g n cap i w hi => idx_en g n cap i w hi) (T + 1)
  have HG := Aside0.mk (show G ≠ T by
    rcases hG with ⟨rfl, _⟩ | ⟨cur, hg, _⟩
    · omega
    · intro e
      rw [e, ht.blk] at hg
      cases hg)
  have HRD := Aside0.mk hrd
  have HT0 := Aside0.mk (ticks_refl (so := 1) (k := st) ht.blk rfl)
  have HB := Aside0.mk (Below.refl w.heap.size w)
  clear ha hs hn hst hrd hG
  by_cases hz : a.fam = 0
  · have c0 : (a.fam == 0) = true := by simpa using hz
    have HR := Aside0.mk (show findQ l a = none from if_pos hz)
    clear hz ht
    go_enter Tryz.func26, Tryz.ntmps26
    go_wp2_with (first
      | ((with_reducible refine gate_dst (N := 3) rfl ?_); refine box_event ?hg (N := 3) ?hd (cs := eA a) (t := 30) ?hr ?_; (case hd => rfl); (case hg => rfl); (case hr => first | (go_simp; done) | (go_simp; rfl)); intro g3 hg w1 hbox hb; have HX := Aside0.mk hbox; replace HB := Aside0.mk (below_step (bel_later HB.out) hb); clear hb hg hbox)
      | ((with_reducible refine gate_dst (N := 4) rfl ?_); refine box_event ?hg (N := 4) ?hd (cs := eE noE) (t := 44) ?hr ?_; (case hd => rfl); (case hg => rfl); (case hr => first | (go_simp; done) | (go_simp; rfl)); intro g4 hg w2 hbox hb; have HY := Aside0.mk hbox; have h0 := (blk_cell (blk_below (blk_later HX.out) hb) 0).trans (eA_fam a); have HG4 := Aside0.mk (show w.heap.size ≤ g4 by rw [hg]; exact below_size (bel_later HB.out)); replace HB := Aside0.mk (below_step (bel_later HB.out) hb); clear hb hg hbox)
      | ((with_reducible refine gate_store (t := 44) (p := 4) rfl ?_); refine wpList_store_row rfl 44 (.tmp 4) (.tmp 12) rfl g4 (eE noE) rfl rfl 44 (eE noE) HY.out (infoEE ok_noE) rfl (eE_one _) ?_; replace HY := Aside0.mk (row_new (cells := eE noE) HY.out); replace HB := Aside0.mk (below_row HB.out HG4.out (eE noE)); generalize w2.setRow g4 (eE noE) = w3 at HY HB ⊢))
    refine bodyPost_ret (results_cell_tmp rfl _ _ g4 44 (eE noE) (0, 0) _ rfl HY.out Tryz.underlying44 rfl (infoEE ok_noE)) rfl ?_
    exact ⟨0, by rw [HR.out]; rfl, Nat.zero_le _, by rw [show st + ((0 : Nat) : Int) = st by omega]; exact ticks_below HT0.out HB.out⟩
  · have c0 : (a.fam == 0) = false := by simpa using hz
    have HR := Aside0.mk (show findQ l a = findI l a (bitsOf a.fam) from if_neg hz)
    clear hz ht
    go_enter Tryz.func26, Tryz.ntmps26
    go_wp2_with (first
      | ((with_reducible refine gate_dst (N := 3) rfl ?_); refine box_event ?hg (N := 3) ?hd (cs := eA a) (t := 30) ?hr ?_; (case hd => rfl); (case hg => rfl); (case hr => first | (go_simp; done) | (go_simp; rfl)); intro g3 hg w1 hbox hb; have HX := Aside0.mk hbox; have HN3 := Aside0.mk (show g3 ≠ T by rw [hg]; exact Ne.symm (Nat.ne_of_lt (blk_lt (blk_below (blk_later HTB.out) (bel_later HB.out))))); replace HB := Aside0.mk (below_step (bel_later HB.out) hb); clear hb hg hbox)
      | ((with_reducible refine gate_dst (N := 4) rfl ?_); refine box_event ?hg (N := 4) ?hd (cs := eE noE) (t := 44) ?hr ?_; (case hd => rfl); (case hg => rfl); (case hr => first | (go_simp; done) | (go_simp; rfl)); intro g4 hg w2 hbox hb; have HY := Aside0.mk hbox; have HN4 := Aside0.mk (show g4 ≠ T by rw [hg]; exact Ne.symm (Nat.ne_of_lt (blk_lt (blk_below (blk_later HTB.out) (bel_later HB.out))))); have HG4 := Aside0.mk (show w.heap.size ≤ g4 by rw [hg]; exact below_size (bel_later HB.out)); replace HX := Aside0.mk (blk_below (blk_later HX.out) hb); have h0 := (blk_cell HX.out 0).trans (eA_fam a); replace HB := Aside0.mk (below_step (bel_later HB.out) hb); clear hb hg hbox)
      | ((with_reducible refine gate_dst (N := 13) rfl ?_); refine wpList_load_row rfl 30 (.tmp 3) rfl g3 rfl 30 (eA a) (0, 0) _ HX.out Tryz.underlying30 rfl (infoE HA.out) ?_)
      | (go_at_call 48; refine (addr_Bits a w2).mono ?_; rintro e w3 ⟨rfl, hb⟩; have HBB := Aside0.mk (below_step HB.out hb); have HF := Aside0.mk (show Fs w T g3 g4 G (.slice A l.length cap) st a l w3 0 from ⟨blk_below HX.out hb, blk_below HY.out hb, fun i e he => range_below (HRD.out.at_ i e he) (below_step HB.out hb), by rw [show st + ((0 : Nat) : Int) = st by omega]; exact blk_below HTB.out (below_step HB.out hb), by rw [show st + ((0 : Nat) : Int) = st by omega]; exact ticks_below HT0.out (below_step HB.out hb)⟩); clear hb h0))
    go_loopw [6] (fun v6 wr => ∃ (z : Int) (m i : Nat), v6 = .int .i64 z ∧ Aside0 (z + (i : Int) = bitsOf a.fam ∧ -1 ≤ z ∧ m ≤ i * (blen l.length + 1)) ∧ Aside0 (findQ l a = findI l a z) ∧ Aside0 (Fs w T g3 g4 G (.slice A l.length cap) st a l wr m)) (fun v6 _ => (intOf v6 + 1).toNat)
    case atStart => exact ⟨bitsOf a.fam, 0, 0, rfl, ⟨by omega, by have := bitsOf_le a.fam; omega, Nat.zero_le _⟩, HR, HF⟩
    case round =>
      obtain ⟨z, m, i, rfl, HI, HFI, HST2⟩ := hrel
      clear HF
      by_cases hz0 : 0 ≤ z
      · have c1 : decide (0 ≤ z) = true := decide_eq_true hz0
        have HZ := Aside0.mk (show 0 ≤ z ∧ z ≤ 128 from ⟨hz0, by have := HI.out.1; have := bitsOf_le a.fam; omega⟩)
        have HPO := Aside0.mk (ok_maskQ a HA.out z)
        have HFO := Aside0.mk (found_pure HOK.out HS.out HPO.out)
        have HBL := Aside0.mk (show blen l.length ≤ 1000 by have := blen_le l.length; have := HN.out; omega)
        have HML := Aside0.mk (show m ≤ 200000 by
          have h1 := HI.out.2.2
          have h2 : i ≤ 130 := by have := HI.out; have := bitsOf_le a.fam; omega
          have h3 : i * (blen l.length + 1) ≤ 130 * (1000 + 1) := Nat.mul_le_mul h2 (by have := HBL.out; omega)
          omega)
        obtain ⟨b, hb⟩ : ∃ b, hasE l (maskQ a z) = b := ⟨_, rfl⟩
        obtain ⟨x0, hx0⟩ : ∃ x0, idxE l (maskQ a z) = x0 := ⟨_, rfl⟩
        have HBV := Aside0.mk hb
        rw [hb, hx0] at HFO
        clear hb hx0
        cases b
        · have HR2 := Aside0.mk (HFI.out.trans (findI_no HZ.out.1 HBV.out))
          have e4 : wrap64 (z - 1) = z - 1 := wrap_dn z HZ.out.1 (by have := HZ.out; omega)
          have HE4 := Aside0.mk e4
          go_wp2
          obtain ⟨S, hS⟩ : ∃ S : World → Prop, S = fun w' => ∃ m' : Nat, Fs w T g3 g4 G (.slice A l.length cap) st a l w' m' := ⟨_, rfl⟩
          have HSx := Aside0.mk (show ∀ x : World, S x → x.heap[g3]? = some (.cells (eA a) 30 (0, 0)) ∧ x.cell? ⟨T, 0, none⟩ = some (.slice A l.length cap) by
            intro b h
            rw [hS] at h
            obtain ⟨m', h⟩ := h
            exact ⟨h.tgt, blk_cell h.tab 0⟩)
          have HSy := Aside0.mk (show ∀ (x : World) (m' : Nat), Fs w T g3 g4 G (.slice A l.length cap) st a l x m' → S x by
            intro b m' h
            rw [hS]
            exact ⟨m', h⟩)
          clear hS
          have HD := Aside0.mk (fs_below HST2.out (show Below wr.heap.size wr wr.drew from bel_later (Below.refl _ _)))
          have s0 : S wr.drew := HSy.out _ m HD.out
          refine wp_region_held_drew (S := S) (by kernel_rfl) s0 (fun _ => ?_)
          refine wpAnyH_take (i := 0) (v := .pointer (some ⟨T, 0, none⟩)) rfl (by kernel_rfl) (by kernel_rfl) (by kernel_rfl) (fun _ _ _ h => h) (Or.inl ⟨by kernel_rfl, fun w' h => by first | (go_simp; done) | (go_simp; rfl)⟩) s0 ?_
          (try simp only [Act.put, List.getElem_toArray, List.getElem_cons_succ, List.getElem_cons_zero, List.setIfInBounds_toArray, List.set_cons_zero, List.set_cons_succ])
          refine wpAnyH_take (i := 1) (v := .pointer (some ⟨T, 0, none⟩)) rfl (by kernel_rfl) (by kernel_rfl) (by kernel_rfl) (fun _ _ _ h => h) (Or.inl ⟨by kernel_rfl, fun w' h => by first | (go_simp; done) | (go_simp; rfl)⟩) s0 ?_
          (try simp only [Act.put, List.getElem_toArray, List.getElem_cons_succ, List.getElem_cons_zero, List.setIfInBounds_toArray, List.set_cons_zero, List.set_cons_succ])
          refine wpAnyH_take (i := 2) (v := .pointer (some ⟨T, 0, none⟩)) rfl (by kernel_rfl) (by kernel_rfl) (by kernel_rfl) (fun _ _ _ h => h) (Or.inl ⟨by kernel_rfl, fun w' h => by first | (go_simp; done) | (go_simp; rfl)⟩) s0 ?_
          (try simp only [Act.put, List.getElem_toArray, List.getElem_cons_succ, List.getElem_cons_zero, List.setIfInBounds_toArray, List.set_cons_zero, List.set_cons_succ])
          refine wpAnyH_take (i := 3) (v := .slice A l.length cap) rfl (by kernel_rfl) (by kernel_rfl) (by kernel_rfl) (fun _ _ _ h => h) (Or.inl ⟨by kernel_rfl, fun w' h => by have hf := (HSx.out w' h).2; first | (go_simp; done) | (go_simp; rfl)⟩) s0 ?_
          (try simp only [Act.put, List.getElem_toArray, List.getElem_cons_succ, List.getElem_cons_zero, List.setIfInBounds_toArray, List.set_cons_zero, List.set_cons_succ])
          refine wpAnyH_take (i := 4) (v := .agg (eA a)) rfl ?r04b ?r04c ?r04d (fun _ _ _ h => h) ?r04e s0 ?r04f
          case r04b => kernel_rfl
          case r04c => kernel_rfl
          case r04d => kernel_rfl
          case r04e => exact yields_row (by kernel_rfl) 30 (.tmp 3) rfl g3 rfl 30 (eA a) (0, 0) _ (fun w' h => (HSx.out w' h).1) Tryz.underlying30 rfl (infoE HA.out)
          (try simp only [Act.put, List.getElem_toArray, List.getElem_cons_succ, List.getElem_cons_zero, List.setIfInBounds_toArray, List.set_cons_zero, List.set_cons_succ])
          refine wpAnyH_take (i := 5) (v := .int .i64 z) rfl (by kernel_rfl) (by kernel_rfl) (by kernel_rfl) (fun _ _ _ h => h) (Or.inl ⟨by kernel_rfl, fun w' h => by first | (go_simp; done) | (go_simp; rfl)⟩) s0 ?_
          (try simp only [Act.put, List.getElem_toArray, List.getElem_cons_succ, List.getElem_cons_zero, List.setIfInBounds_toArray, List.set_cons_zero, List.set_cons_succ])
          refine wpAnyH_take (i := 7) (v := .pointer (some ⟨T, 0, none⟩)) rfl (by kernel_rfl) (by kernel_rfl) (by kernel_rfl) (fun _ _ _ h => h) (Or.inl ⟨by kernel_rfl, fun w' h => by first | (go_simp; done) | (go_simp; rfl)⟩) s0 ?_
          (try simp only [Act.put, List.getElem_toArray, List.getElem_cons_succ, List.getElem_cons_zero, List.setIfInBounds_toArray, List.set_cons_zero, List.set_cons_succ])
          refine wpAnyH_take (i := 8) (v := .pointer (some ⟨T, 0, none⟩)) rfl (by kernel_rfl) (by kernel_rfl) (by kernel_rfl) (fun _ _ _ h => h) (Or.inl ⟨by kernel_rfl, fun w' h => by first | (go_simp; done) | (go_simp; rfl)⟩) s0 ?_
          (try simp only [Act.put, List.getElem_toArray, List.getElem_cons_succ, List.getElem_cons_zero, List.setIfInBounds_toArray, List.set_cons_zero, List.set_cons_succ])
          refine wpAnyH_take (i := 9) (v := .pointer (some ⟨T, 1, none⟩)) rfl (by kernel_rfl) (by kernel_rfl) (by kernel_rfl) (fun _ _ _ h => h) (Or.inl ⟨by kernel_rfl, fun w' h => by first | (go_simp; done) | (go_simp; rfl)⟩) s0 ?_
          (try simp only [Act.put, List.getElem_toArray, List.getElem_cons_succ, List.getElem_cons_zero, List.setIfInBounds_toArray, List.set_cons_zero, List.set_cons_succ])
          refine held_step (i := 6) (by kernel_rfl) rfl (by kernel_rfl) (fun K hK => ?_)
          go_wp2_with (go_at_call 50; refine (cidr_Mask a HA.out z wr.drew).mono ?_; rintro e w5 ⟨rfl, hb⟩; have HD5 := Aside0.mk (fs_below HD.out hb); have s1 : S w5 := HSy.out _ m HD5.out; clear hb)
          refine hK.out _ _ s1 ?_
          clear hK K
          (try simp only [Act.put, List.getElem_toArray, List.getElem_cons_succ, List.getElem_cons_zero, List.setIfInBounds_toArray, List.set_cons_zero, List.set_cons_succ])
          refine held_step (i := 10) (by kernel_rfl) rfl (by kernel_rfl) (fun K hK => ?_)
          go_simp
          refine (table_search A l.length cap G l HOK.out (maskQ a z) HPO.out T 1 98 _ (st + (m : Int)) w5 (rd_of_fs HD5.out HRD.out) HD5.out.tab rfl HG.out (by have := HN.out; omega) (by have := HST.out; omega) (by have := HST.out; have := HML.out; omega) (mono_sorted HOK.out HS.out HPO.out)).mono ?_
          rintro r w6 ⟨i2, b2, m2, rfl, h1, h2, h3⟩
          obtain ⟨rfl, rfl⟩ := found_same h3 HFO.out
          have HD6 := Aside0.mk (fs_ticks HD5.out HN3.out HN4.out HG.out h1)
          have HM2 := Aside0.mk h2
          have s2 : S w6 := HSy.out _ (m + m2) HD6.out
          clear h1 h2 h3
          refine hK.out _ _ s2 ?_
          clear hK K
          (try simp only [Act.put, List.getElem_toArray, List.getElem_cons_succ, List.getElem_cons_zero, List.setIfInBounds_toArray, List.set_cons_zero, List.set_cons_succ])
          refine wpAnyH_take (i := 11) (v := .tuple #[.int .i64 (i2 : Int), .bool false]) rfl (by kernel_rfl) (by kernel_rfl) (by kernel_rfl) (fun _ _ _ h => h) (Or.inl ⟨by kernel_rfl, fun w' h => by first | (go_simp; done) | (go_simp; rfl)⟩) s2 ?_
          (try simp only [Act.put, List.getElem_toArray, List.getElem_cons_succ, List.getElem_cons_zero, List.setIfInBounds_toArray, List.set_cons_zero, List.set_cons_succ])
          refine wpAnyH_take (i := 12) (v := .int .i64 (i2 : Int)) rfl (by kernel_rfl) (by kernel_rfl) (by kernel_rfl) (fun _ _ _ h => h) (Or.inl ⟨by kernel_rfl, fun w' h => by first | (go_simp; done) | (go_simp; rfl)⟩) s2 ?_
          (try simp only [Act.put, List.getElem_toArray, List.getElem_cons_succ, List.getElem_cons_zero, List.setIfInBounds_toArray, List.set_cons_zero, List.set_cons_succ])
          refine wpAnyH_take (i := 13) (v := .bool false) rfl (by kernel_rfl) (by kernel_rfl) (by kernel_rfl) (fun _ _ _ h => h) (Or.inl ⟨by kernel_rfl, fun w' h => by first | (go_simp; done) | (go_simp; rfl)⟩) s2 ?_
          (try simp only [Act.put, List.getElem_toArray, List.getElem_cons_succ, List.getElem_cons_zero, List.setIfInBounds_toArray, List.set_cons_zero, List.set_cons_succ])
          refine wpAnyH_take (i := 14) (v := .int .i64 (i2 : Int)) rfl (by kernel_rfl) (by kernel_rfl) (by kernel_rfl) (fun _ _ _ h => h) (Or.inl ⟨by kernel_rfl, fun w' h => by first | (go_simp; done) | (go_simp; rfl)⟩) s2 ?_
          (try simp only [Act.put, List.getElem_toArray, List.getElem_cons_succ, List.getElem_cons_zero, List.setIfInBounds_toArray, List.set_cons_zero, List.set_cons_succ])
          refine wpAnyH_take (i := 15) (v := .bool false) rfl (by kernel_rfl) (by kernel_rfl) (by kernel_rfl) (fun _ _ _ h => h) (Or.inl ⟨by kernel_rfl, fun w' h => by first | (go_simp; done) | (go_simp; rfl)⟩) s2 ?_
          (try simp only [Act.put, List.getElem_toArray, List.getElem_cons_succ, List.getElem_cons_zero, List.setIfInBounds_toArray, List.set_cons_zero, List.set_cons_succ])
          refine wpAnyH_done (by kernel_rfl) ?_ _
          clear s0 s1 s2
          go_wp2
          go_roundw
          case rel => exact ⟨z - 1, m + m2, i + 1, (by first | rfl | exact congrArg (Value.int .i64) HE4.out), ⟨by have := HI.out.1; omega, by have := HZ.out; omega, by
            have h1 := HI.out.2.2
            have h2 := HM2.out
            rw [Nat.succ_mul]
            omega⟩, HR2, HD6⟩
          case measure =>
            rw [HE4.out]
            show ((z - 1) + 1).toNat < (z + 1).toNat
            have := HZ.out
            omega
        · obtain ⟨x, hx, hxp, _, _, _, hget, _⟩ := found_yes HOK.out HS.out HPO.out HFO.out
          have HR2 := Aside0.mk ((HFI.out.trans (findI_yes HZ.out.1 HBV.out)).trans hget)
          have HXX := Aside0.mk hx
          have HOX := Aside0.mk (HOK.out x (List.mem_of_getElem? hx))
          have hidx := fun w => HRD.out.idx w x0 (by rw [← HRD.out.len]; exact (List.getElem?_eq_some_iff.1 hx).1)
          clear hx hxp hget
          go_wp2
          obtain ⟨S, hS⟩ : ∃ S : World → Prop, S = fun w' => ∃ m' : Nat, Fs w T g3 g4 G (.slice A l.length cap) st a l w' m' := ⟨_, rfl⟩
          have HSx := Aside0.mk (show ∀ x : World, S x → x.heap[g3]? = some (.cells (eA a) 30 (0, 0)) ∧ x.cell? ⟨T, 0, none⟩ = some (.slice A l.length cap) by
            intro b h
            rw [hS] at h
            obtain ⟨m', h⟩ := h
            exact ⟨h.tgt, blk_cell h.tab 0⟩)
          have HSy := Aside0.mk (show ∀ (x : World) (m' : Nat), Fs w T g3 g4 G (.slice A l.length cap) st a l x m' → S x by
            intro b m' h
            rw [hS]
            exact ⟨m', h⟩)
          clear hS
          have HD := Aside0.mk (fs_below HST2.out (show Below wr.heap.size wr wr.drew from bel_later (Below.refl _ _)))
          have s0 : S wr.drew := HSy.out _ m HD.out
          refine wp_region_held_drew (S := S) (by kernel_rfl) s0 (fun _ => ?_)
          refine wpAnyH_take (i := 0) (v := .pointer (some ⟨T, 0, none⟩)) rfl (by kernel_rfl) (by kernel_rfl) (by kernel_rfl) (fun _ _ _ h => h) (Or.inl ⟨by kernel_rfl, fun w' h => by first | (go_simp; done) | (go_simp; rfl)⟩) s0 ?_
          (try simp only [Act.put, List.getElem_toArray, List.getElem_cons_succ, List.getElem_cons_zero, List.setIfInBounds_toArray, List.set_cons_zero, List.set_cons_succ])
          refine wpAnyH_take (i := 1) (v := .pointer (some ⟨T, 0, none⟩)) rfl (by kernel_rfl) (by kernel_rfl) (by kernel_rfl) (fun _ _ _ h => h) (Or.inl ⟨by kernel_rfl, fun w' h => by first | (go_simp; done) | (go_simp; rfl)⟩) s0 ?_
          (try simp only [Act.put, List.getElem_toArray, List.getElem_cons_succ, List.getElem_cons_zero, List.setIfInBounds_toArray, List.set_cons_zero, List.set_cons_succ])
          refine wpAnyH_take (i := 2) (v := .pointer (some ⟨T, 0, none⟩)) rfl (by kernel_rfl) (by kernel_rfl) (by kernel_rfl) (fun _ _ _ h => h) (Or.inl ⟨by kernel_rfl, fun w' h => by first | (go_simp; done) | (go_simp; rfl)⟩) s0 ?_
          (try simp only [Act.put, List.getElem_toArray, List.getElem_cons_succ, List.getElem_cons_zero, List.setIfInBounds_toArray, List.set_cons_zero, List.set_cons_succ])
          refine wpAnyH_take (i := 3) (v := .slice A l.length cap) rfl (by kernel_rfl) (by kernel_rfl) (by kernel_rfl) (fun _ _ _ h => h) (Or.inl ⟨by kernel_rfl, fun w' h => by have hf := (HSx.out w' h).2; first | (go_simp; done) | (go_simp; rfl)⟩) s0 ?_
          (try simp only [Act.put, List.getElem_toArray, List.getElem_cons_succ, List.getElem_cons_zero, List.setIfInBounds_toArray, List.set_cons_zero, List.set_cons_succ])
          refine wpAnyH_take (i := 4) (v := .agg (eA a)) rfl ?r14b ?r14c ?r14d (fun _ _ _ h => h) ?r14e s0 ?r14f
          case r14b => kernel_rfl
          case r14c => kernel_rfl
          case r14d => kernel_rfl
          case r14e => exact yields_row (by kernel_rfl) 30 (.tmp 3) rfl g3 rfl 30 (eA a) (0, 0) _ (fun w' h => (HSx.out w' h).1) Tryz.underlying30 rfl (infoE HA.out)
          (try simp only [Act.put, List.getElem_toArray, List.getElem_cons_succ, List.getElem_cons_zero, List.setIfInBounds_toArray, List.set_cons_zero, List.set_cons_succ])
          refine wpAnyH_take (i := 5) (v := .int .i64 z) rfl (by kernel_rfl) (by kernel_rfl) (by kernel_rfl) (fun _ _ _ h => h) (Or.inl ⟨by kernel_rfl, fun w' h => by first | (go_simp; done) | (go_simp; rfl)⟩) s0 ?_
          (try simp only [Act.put, List.getElem_toArray, List.getElem_cons_succ, List.getElem_cons_zero, List.setIfInBounds_toArray, List.set_cons_zero, List.set_cons_succ])
          refine wpAnyH_take (i := 7) (v := .pointer (some ⟨T, 0, none⟩)) rfl (by kernel_rfl) (by kernel_rfl) (by kernel_rfl) (fun _ _ _ h => h) (Or.inl ⟨by kernel_rfl, fun w' h => by first | (go_simp; done) | (go_simp; rfl)⟩) s0 ?_
          (try simp only [Act.put, List.getElem_toArray, List.getElem_cons_succ, List.getElem_cons_zero, List.setIfInBounds_toArray, List.set_cons_zero, List.set_cons_succ])
          refine wpAnyH_take (i := 8) (v := .pointer (some ⟨T, 0, none⟩)) rfl (by kernel_rfl) (by kernel_rfl) (by kernel_rfl) (fun _ _ _ h => h) (Or.inl ⟨by kernel_rfl, fun w' h => by first | (go_simp; done) | (go_simp; rfl)⟩) s0 ?_
          (try simp only [Act.put, List.getElem_toArray, List.getElem_cons_succ, List.getElem_cons_zero, List.setIfInBounds_toArray, List.set_cons_zero, List.set_cons_succ])
          refine wpAnyH_take (i := 9) (v := .pointer (some ⟨T, 1, none⟩)) rfl (by kernel_rfl) (by kernel_rfl) (by kernel_rfl) (fun _ _ _ h => h) (Or.inl ⟨by kernel_rfl, fun w' h => by first | (go_simp; done) | (go_simp; rfl)⟩) s0 ?_
          (try simp only [Act.put, List.getElem_toArray, List.getElem_cons_succ, List.getElem_cons_zero, List.setIfInBounds_toArray, List.set_cons_zero, List.set_cons_succ])
          refine held_step (i := 6) (by kernel_rfl) rfl (by kernel_rfl) (fun K hK => ?_)
          go_wp2_with (go_at_call 50; refine (cidr_Mask a HA.out z wr.drew).mono ?_; rintro e w5 ⟨rfl, hb⟩; have HD5 := Aside0.mk (fs_below HD.out hb); have s1 : S w5 := HSy.out _ m HD5.out; clear hb)
          refine hK.out _ _ s1 ?_
          clear hK K
          (try simp only [Act.put, List.getElem_toArray, List.getElem_cons_succ, List.getElem_cons_zero, List.setIfInBounds_toArray, List.set_cons_zero, List.set_cons_succ])
          refine held_step (i := 10) (by kernel_rfl) rfl (by kernel_rfl) (fun K hK => ?_)
          go_simp
          refine (table_search A l.length cap G l HOK.out (maskQ a z) HPO.out T 1 98 _ (st + (m : Int)) w5 (rd_of_fs HD5.out HRD.out) HD5.out.tab rfl HG.out (by have := HN.out; omega) (by have := HST.out; omega) (by have := HST.out; have := HML.out; omega) (mono_sorted HOK.out HS.out HPO.out)).mono ?_
          rintro r w6 ⟨i2, b2, m2, rfl, h1, h2, h3⟩
          obtain ⟨rfl, rfl⟩ := found_same h3 HFO.out
          have HD6 := Aside0.mk (fs_ticks HD5.out HN3.out HN4.out HG.out h1)
          have HM2 := Aside0.mk h2
          have s2 : S w6 := HSy.out _ (m + m2) HD6.out
          clear h1 h2 h3
          refine hK.out _ _ s2 ?_
          clear hK K
          (try simp only [Act.put, List.getElem_toArray, List.getElem_cons_succ, List.getElem_cons_zero, List.setIfInBounds_toArray, List.set_cons_zero, List.set_cons_succ])
          refine wpAnyH_take (i := 11) (v := .tuple #[.int .i64 (i2 : Int), .bool true]) rfl (by kernel_rfl) (by kernel_rfl) (by kernel_rfl) (fun _ _ _ h => h) (Or.inl ⟨by kernel_rfl, fun w' h => by first | (go_simp; done) | (go_simp; rfl)⟩) s2 ?_
          (try simp only [Act.put, List.getElem_toArray, List.getElem_cons_succ, List.getElem_cons_zero, List.setIfInBounds_toArray, List.set_cons_zero, List.set_cons_succ])
          refine wpAnyH_take (i := 12) (v := .int .i64 (i2 : Int)) rfl (by kernel_rfl) (by kernel_rfl) (by kernel_rfl) (fun _ _ _ h => h) (Or.inl ⟨by kernel_rfl, fun w' h => by first | (go_simp; done) | (go_simp; rfl)⟩) s2 ?_
          (try simp only [Act.put, List.getElem_toArray, List.getElem_cons_succ, List.getElem_cons_zero, List.setIfInBounds_toArray, List.set_cons_zero, List.set_cons_succ])
          refine wpAnyH_take (i := 13) (v := .bool true) rfl (by kernel_rfl) (by kernel_rfl) (by kernel_rfl) (fun _ _ _ h => h) (Or.inl ⟨by kernel_rfl, fun w' h => by first | (go_simp; done) | (go_simp; rfl)⟩) s2 ?_
          (try simp only [Act.put, List.getElem_toArray, List.getElem_cons_succ, List.getElem_cons_zero, List.setIfInBounds_toArray, List.set_cons_zero, List.set_cons_succ])
          refine wpAnyH_take (i := 14) (v := .int .i64 (i2 : Int)) rfl (by kernel_rfl) (by kernel_rfl) (by kernel_rfl) (fun _ _ _ h => h) (Or.inl ⟨by kernel_rfl, fun w' h => by first | (go_simp; done) | (go_simp; rfl)⟩) s2 ?_
          (try simp only [Act.put, List.getElem_toArray, List.getElem_cons_succ, List.getElem_cons_zero, List.setIfInBounds_toArray, List.set_cons_zero, List.set_cons_succ])
          refine wpAnyH_take (i := 15) (v := .bool true) rfl (by kernel_rfl) (by kernel_rfl) (by kernel_rfl) (fun _ _ _ h => h) (Or.inl ⟨by kernel_rfl, fun w' h => by first | (go_simp; done) | (go_simp; rfl)⟩) s2 ?_
          (try simp only [Act.put, List.getElem_toArray, List.getElem_cons_succ, List.getElem_cons_zero, List.setIfInBounds_toArray, List.set_cons_zero, List.set_cons_succ])
          refine wpAnyH_done (by kernel_rfl) ?_ _
          clear s0 s1 s2
          have h0 : w6.cell? ⟨T, 0, none⟩ = some (.slice A l.length cap) := blk_cell HD6.out.tab 0
          go_wp2_with (first
            | ((with_reducible refine gate_dst (N := 40) rfl ?_); refine wpList_load_mid rfl 44 (.tmp 39) rfl G (i2 * 19) rfl (lE x) _ (HD6.out.at_ i2 x HXX.out) Tryz.underlying44 rfl (infoEE HOX.out) ?_)
            | ((with_reducible refine gate_store (t := 44) (p := 4) rfl ?_); refine wpList_store_row rfl 44 (.tmp 4) (.tmp 40) rfl g4 (eE x) rfl rfl 44 (eE noE) HD6.out.out (infoEE HOX.out) ((eE_size ok_noE).trans (eE_size HOX.out).symm) (eE_one _) ?_; have HY7 := Aside0.mk (row_new (cells := eE x) HD6.out.out); have HB7 := Aside0.mk (ticks_row HD6.out.tck HG4.out HN4.out (eE x)); generalize w6.setRow g4 (eE x) = w7 at HY7 HB7 ⊢))
          refine bodyPost_ret (results_cell_tmp rfl _ _ g4 44 (eE x) (0, 0) _ rfl HY7.out Tryz.underlying44 rfl (infoEE HOX.out)) rfl ?_
          exact ⟨m + m2, by rw [HR2.out]; rfl, find_bound HI.out.1 HZ.out.1 HI.out.2.2 HM2.out, HB7.out⟩
      · have c1 : decide (0 ≤ z) = false := decide_eq_false hz0
        have HR2 := Aside0.mk (HFI.out.trans (show findI l a z = none from if_pos (by omega)))
        have HI2 := Aside0.mk (show i ≤ 129 by have := HI.out; have := bitsOf_le a.fam; omega)
        clear hz0
        go_wp2_with (first
          | ((with_reducible refine gate_store (t := 44) (p := 4) rfl ?_); refine wpList_store_row rfl 44 (.tmp 4) (.tmp 41) rfl g4 (eE noE) rfl rfl 44 (eE noE) HST2.out.out (infoEE ok_noE) rfl (eE_one _) ?_; have HY7 := Aside0.mk (row_new (cells := eE noE) HST2.out.out); have HB7 := Aside0.mk (ticks_row HST2.out.tck HG4.out HN4.out (eE noE)); generalize wr.setRow g4 (eE noE) = w7 at HY7 HB7 ⊢))
        refine bodyPost_ret (results_cell_tmp rfl _ _ g4 44 (eE noE) (0, 0) _ rfl HY7.out Tryz.underlying44 rfl (infoEE ok_noE)) rfl ?_
        exact ⟨m, by rw [HR2.out]; rfl, Nat.le_trans HI.out.2.2 (Nat.mul_le_mul_right _ HI2.out), HB7.out⟩
end Go.Proofs.YthdognlkacjkhaaGreatDoor.P
end
