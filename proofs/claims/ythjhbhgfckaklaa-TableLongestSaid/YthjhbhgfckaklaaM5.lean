/-
  Texts of the proof, put together.
-/
import Derived.Laws.AppendOwn
import Derived.Test.YthjhbhgfckaklaaArrO
section
namespace Go.Proofs.Ythjhbhgfckaklaa.P
open Go.RowKit Go.Proofs.YthjhbhgfckaklaaW.PrintWords Go.Proofs.YthjhbhgfckaklaaW.PrintLast Go.Proofs.YthjhbhgfckaklaaW.PrintMore
set_option linter.unusedVariables false
set_option linter.unusedSimpArgs false
structure En where
  p : Pf
  v : Int
def lP (p : Pf) : List Value := lA p.a ++ [Value.int .i64 p.n]
def lE (e : En) : List Value := lP e.p ++ [Value.int .i64 e.v]
def eE (e : En) : Array Value := (lE e).toArray
def noE : En := ⟨noP, 0⟩
def flE (l : List En) : List Value := l.flatMap lE
abbrev okE (l : List En) : Prop := ∀ e ∈ l, e.p.a.ok
theorem lP_len {p : Pf} (h : p.a.ok) : (lP p).length = 18 := by unfold lP; rw [List.length_append, lA_len h]; rfl
theorem lE_len {e : En} (h : e.p.a.ok) : (lE e).length = 19 := by unfold lE; rw [List.length_append, lP_len h]; rfl
theorem eE_size {e : En} (h : e.p.a.ok) : (eE e).size = 19 := by unfold eE; simp [lE_len h]
theorem lA_one (a : Ad) : ∀ v ∈ lA a, v.oneCell' = true := by
  intro v hv
  unfold lA at hv
  simp only [List.mem_cons, List.mem_map] at hv
  rcases hv with rfl | ⟨x, _, rfl⟩ <;> rfl
theorem lP_one (p : Pf) : ∀ v ∈ lP p, v.oneCell' = true := by
  intro v hv
  rcases List.mem_append.1 hv with h | h
  · exact lA_one _ v h
  · rw [List.mem_singleton.1 h]; rfl
theorem lE_one (e : En) : ∀ v ∈ lE e, v.oneCell' = true := by
  intro v hv
  rcases List.mem_append.1 hv with h | h
  · exact lP_one _ v h
  · rw [List.mem_singleton.1 h]; rfl
theorem flE_one (l : List En) : ∀ v ∈ flE l, v.oneCell' = true := by
  intro v hv
  obtain ⟨e, _, h⟩ := List.mem_flatMap.1 hv
  exact lE_one e v h
theorem eE_one (e : En) : (eE e).all (·.oneCell') = true := by
  rw [Array.all_eq_true_iff_forall_mem]
  intro v hv
  exact lE_one e v (by unfold eE at hv; exact List.mem_toArray.1 hv)
theorem flE_len : ∀ {l : List En}, okE l → (flE l).length = l.length * 19
  | [], _ => rfl
  | e :: l, h => by
    have ih := flE_len (l := l) (fun x hx => h x (List.mem_cons_of_mem _ hx))
    unfold flE at ih ⊢
    rw [List.flatMap_cons, List.length_append, ih, lE_len (h e List.mem_cons_self), List.length_cons]
    omega
theorem flE_append (x y : List En) : flE (x ++ y) = flE x ++ flE y := List.flatMap_append
theorem flE_cons (e : En) (l : List En) : flE (e :: l) = lE e ++ flE l := List.flatMap_cons
theorem flE_take {l : List En} (h : okE l) (i : Nat) (hi : i ≤ l.length) : flE (l.take i) = (flE l).take (i * 19) := by
  have h1 : okE (l.take i) := fun e he => h e (List.mem_of_mem_take he)
  have h2 := flE_append (l.take i) (l.drop i)
  rw [List.take_append_drop] at h2
  have h3 : (flE (l.take i)).length = i * 19 := by rw [flE_len h1, List.length_take, Nat.min_eq_left hi]
  rw [h2, ← h3, List.take_left]
theorem flE_drop {l : List En} (h : okE l) (i : Nat) (hi : i ≤ l.length) : flE (l.drop i) = (flE l).drop (i * 19) := by
  have h1 : okE (l.take i) := fun e he => h e (List.mem_of_mem_take he)
  have h2 := flE_append (l.take i) (l.drop i)
  rw [List.take_append_drop] at h2
  have h3 : (flE (l.take i)).length = i * 19 := by rw [flE_len h1, List.length_take, Nat.min_eq_left hi]
  rw [h2, ← h3, List.drop_left]
theorem flE_get {l : List En} (h : okE l) {i : Nat} {e : En} (he : l[i]? = some e) {j : Nat} {u : Value} (hj : (lE e)[j]? = some u) : (flE l)[i * 19 + j]? = some u := by
  have hi : i < l.length := (List.getElem?_eq_some_iff.1 he).1
  have hd := flE_drop h i (Nat.le_of_lt hi)
  have hl : l.drop i = e :: l.drop (i + 1) := by
    rw [List.drop_eq_getElem_cons hi]
    congr 1
    exact (List.getElem?_eq_some_iff.1 he).2
  rw [← List.getElem?_drop, ← hd, hl, flE_cons, List.getElem?_append_left (List.getElem?_eq_some_iff.1 hj).1]
  exact hj
theorem infoEn : (Try.prog.info? 42).map (·.size) = some 19 := by kernel_rfl
theorem infoEr : (Try.prog.info? 63).map (·.size) = some 19 := by kernel_rfl
/-! ### a row of entries that is read -/
/-- A slice that reads as these entries: where the i-th one lies, and that it lies there. -/
structure Rd (w : World) (ty : TypeId) (A : Option Addr) (n cap G : Nat) (l : List En) : Prop where
  len : l.length = n
  idx : ∀ (w : World) (i : Nat), i < n → (Instr.indexAt ty (.slice A n cap) (.int .i64 (i : Int))).run Try.prog w = .ok (.pointer (some ⟨G, i * 19, none⟩)) w
  at_ : ∀ (i : Nat) (e : En), l[i]? = some e → w.rangeAt G (i * 19) (lE e)
theorem range_below {w w' : World} {b o : Nat} {cs : List Value} (h : w.rangeAt b o cs) (hb : Below w.heap.size w w') : w'.rangeAt b o cs := fun j v hv => by
  have h1 := h j v hv
  have hlt : b < w.heap.size := World.block_lt_of_cell? w ⟨b, o + j, none⟩ h1
  rw [← h1]
  exact World.cell?_of_block (hb.block b hlt)
theorem range_of_block {w : World} {b o n : Nat} {t : TypeId} {cur : Array Value} {cs xs : List Value} (hg : w.heap[b]? = some (.cells cur t (0, 0))) (ht : cur.toList.take n = xs) (h : ∀ j v, cs[j]? = some v → xs[o + j]? = some v) : w.rangeAt b o cs := fun j v hv => by
  have h1 := h j v hv
  rw [← ht, List.getElem?_take] at h1
  split at h1
  · rw [cell_of_row w b (o + j) cur t (0, 0) hg, ← Array.getElem?_toList]
    exact h1
  · cases h1
theorem part_pf {w : World} {G o : Nat} {e : En} (h : w.rangeAt G o (lE e)) : w.rangeAt G o (lP e.p) := fun j v hv => h j v (by
  unfold lE
  rw [List.getElem?_append_left (List.getElem?_eq_some_iff.1 hv).1]
  exact hv)
theorem part_n {w : World} {G o : Nat} {e : En} (he : e.p.a.ok) (h : w.rangeAt G o (lE e)) : w.cell? ⟨G, o + 17, none⟩ = some (.int .i64 e.p.n) := h 17 _ (by
  unfold lE lP
  rw [List.getElem?_append_left (by rw [List.length_append, lA_len he]; exact Nat.lt_succ_self 17), List.getElem?_append_right (by rw [lA_len he]; exact Nat.le_refl _), lA_len he]
  rfl)
theorem part_v {w : World} {G o : Nat} {e : En} (he : e.p.a.ok) (h : w.rangeAt G o (lE e)) : w.cell? ⟨G, o + 18, none⟩ = some (.int .i64 e.v) := h 18 _ (by
  unfold lE
  rw [List.getElem?_append_right (by rw [lP_len he]; exact Nat.le_refl _), lP_len he]
  rfl)
theorem range_row {w : World} {g : Nat} {t : TypeId} {xs : List Value} (hg : w.heap[g]? = some (.cells xs.toArray t (0, 0))) : w.rangeAt g 0 xs := fun j v hv => by
  rw [Nat.zero_add, cell_of_row w g j xs.toArray t (0, 0) hg, List.getElem?_toArray]
  exact hv
/-! ### a number that is counted up -/
/-- One cell is another number; all other blocks, and all other cells of its block, are as they were. -/
structure Ticks (sb so : Nat) (w w' : World) (k : Int) : Prop where
  os : w'.os = w.os
  tape : w'.tape = w.tape
  output : w'.output = w.output
  size : w.heap.size ≤ w'.heap.size
  block : ∀ b, b < w.heap.size → b ≠ sb → w'.heap[b]? = w.heap[b]?
  same : ∀ cs t, w.heap[sb]? = some (.cells cs t (0, 0)) → w'.heap[sb]? = some (.cells (cs.setIfInBounds so (.int .i64 k)) t (0, 0))
theorem ticks_refl {sb so : Nat} {w : World} {k : Int} {cs : Array Value} {t : TypeId} (h : w.heap[sb]? = some (.cells cs t (0, 0))) (hk : cs[so]? = some (.int .i64 k)) : Ticks sb so w w k :=
  ⟨rfl, rfl, rfl, Nat.le_refl _, fun _ _ _ => rfl, fun cs' t' h' => by
    rw [h] at h'
    cases h'
    obtain ⟨h1, h2⟩ := Array.getElem?_eq_some_iff.1 hk
    have e : cs.setIfInBounds so (.int .i64 k) = cs := by
      apply Array.ext_getElem?
      intro i
      rw [Array.getElem?_setIfInBounds]
      by_cases hi : so = i
      · subst hi; rw [if_pos rfl, if_pos h1, hk]
      · rw [if_neg hi]
    rw [e]
    exact h⟩
theorem ticks_trans {sb so : Nat} {a b c : World} {k k' : Int} (h : Ticks sb so a b k) (h' : Ticks sb so b c k') : Ticks sb so a c k' :=
  ⟨h'.os.trans h.os, h'.tape.trans h.tape, h'.output.trans h.output, Nat.le_trans h.size h'.size, fun x hx hn => (h'.block x (Nat.lt_of_lt_of_le hx h.size) hn).trans (h.block x hx hn), fun cs t hc => by
    have := h'.same _ _ (h.same cs t hc)
    rw [Array.setIfInBounds_setIfInBounds] at this
    exact this⟩
theorem ticks_below {sb so : Nat} {a b c : World} {k : Int} (h : Ticks sb so a b k) (hb : Below b.heap.size b c) : Ticks sb so a c k :=
  ⟨hb.os.trans h.os, hb.tape.trans h.tape, hb.output.trans h.output, Nat.le_trans h.size hb.size, fun x hx hn => (hb.block x (Nat.lt_of_lt_of_le hx h.size)).trans (h.block x hx hn), fun cs t hc => blk_below (h.same cs t hc) hb⟩
theorem below_ticks {sb so : Nat} {a b c : World} {k : Int} {cs : Array Value} {t : TypeId} (hs : a.heap[sb]? = some (.cells cs t (0, 0))) (hb : Below a.heap.size a b) (h : Ticks sb so b c k) : Ticks sb so a c k :=
  ⟨h.os.trans hb.os, h.tape.trans hb.tape, h.output.trans hb.output, Nat.le_trans hb.size h.size, fun x hx hn => (h.block x (Nat.lt_of_lt_of_le hx hb.size) hn).trans (hb.block x hx), fun cs t hc => h.same cs t (blk_below hc hb)⟩
theorem ticks_set {sb so : Nat} {w : World} {k : Int} {cs : Array Value} {t : TypeId} (h : w.heap[sb]? = some (.cells cs t (0, 0))) : Ticks sb so w (w.setCell ⟨sb, so, none⟩ (.int .i64 k)) k :=
  ⟨rfl, rfl, rfl, by unfold World.setCell; simp, fun b hb hn => Below.heap_setCell w _ _ b hn, fun cs' t' h' => blk_put h' so _ rfl⟩
theorem ticks_blk {sb so : Nat} {w w' : World} {k : Int} (h : Ticks sb so w w' k) {g : Nat} {o : Obj} (hg : w.heap[g]? = some o) (hn : g ≠ sb) : w'.heap[g]? = some o :=
  (h.block g (Array.getElem?_eq_some_iff.1 hg).1 hn).trans hg
theorem ticks_range {sb so : Nat} {w w' : World} {k : Int} (h : Ticks sb so w w' k) {b o : Nat} {cs : List Value} (hg : w.rangeAt b o cs) (hn : b ≠ sb) : w'.rangeAt b o cs := fun j v hv => by
  have h1 := hg j v hv
  have hlt : b < w.heap.size := World.block_lt_of_cell? w ⟨b, o + j, none⟩ h1
  rw [← h1]
  exact World.cell?_of_block (h.block b hlt hn)
/-! ### the comparison of a search -/
set_option maxHeartbeats 4000000 in
set_option maxRecDepth 100000 in
theorem search_cmp (e : En) (p : Pf) (he : e.p.a.ok) (hp : p.a.ok) (B sb so : Nat) (tB t : TypeId) (cs : Array Value) (k : Int) (w : World) (hB : w.heap[B]? = some (.cells #[.pointer (some ⟨sb, so, none⟩)] tB (0, 0))) (hs : w.heap[sb]? = some (.cells cs t (0, 0))) (hk : cs[so]? = some (.int .i64 k)) :
    Calls Try.prog 69 #[.agg (eE e), .agg (eP p), .pointer (some ⟨B, 0, none⟩)] w fun r w' => r = .returned (.int .i64 (cmpP e.p p)) ∧ Ticks sb so w w' (wrap64 (k + 1)) := by
  have HB := Aside0.mk (Below.refl w.heap.size w)
  have HE := Aside0.mk he
  have HP := Aside0.mk hp
  have HBB := Aside0.mk hB
  have HS := Aside0.mk hs
  have HS0 := Aside0.mk hs
  have HK := Aside0.mk hk
  clear he hp hB hs hk
  go_enter Try.func69, Try.ntmps69
  go_wp2_with (first
    | ((with_reducible refine gate_dst (N := 3) rfl ?_); refine box_event ?hg (N := 3) ?hd (cs := eE e) (t := 42) ?hr ?_; (case hd => rfl); (case hg => rfl); (case hr => first | (go_simp; done) | (go_simp; rfl)); intro g3 hg w1 hbox hb; have HX := Aside0.mk hbox; have HN3 := Aside0.mk (show g3 ≠ sb by rw [hg]; exact Ne.symm (Nat.ne_of_lt (blk_lt (blk_later HS.out)))); replace HBB := Aside0.mk (blk_below (blk_later HBB.out) hb); replace HS := Aside0.mk (blk_below (blk_later HS.out) hb); replace HB := Aside0.mk (below_step (bel_later HB.out) hb); clear hb hg hbox)
    | ((with_reducible refine gate_dst (N := 4) rfl ?_); refine box_event ?hg (N := 4) ?hd (cs := eP p) (t := 39) ?hr ?_; (case hd => rfl); (case hg => rfl); (case hr => first | (go_simp; done) | (go_simp; rfl)); intro g4 hg w2 hbox hb; have HY := Aside0.mk hbox; have HN := Aside0.mk (show g3 ≠ sb ∧ g4 ≠ sb from ⟨HN3.out, by rw [hg]; exact Ne.symm (Nat.ne_of_lt (blk_lt (blk_later HS.out)))⟩); replace HX := Aside0.mk (blk_below (blk_later HX.out) hb); replace HBB := Aside0.mk (blk_below (blk_later HBB.out) hb); replace HS := Aside0.mk (blk_below (blk_later HS.out) hb); replace HB := Aside0.mk (below_step (bel_later HB.out) hb); have h0 : w2.cell? ⟨B, 0, none⟩ = some (.pointer (some ⟨sb, so, none⟩)) := blk_cell HBB.out 0; have h1 := (blk_cell HS.out so).trans HK.out; have hfz := blk_frozen HS.out so; clear hb hg hbox)
    | ((with_reducible refine gate_dst (N := 12) rfl ?_); have HT := Aside0.mk (ticks_set (so := so) (k := wrap64 (k + 1)) HS.out); have HX3 := Aside0.mk (ticks_blk HT.out HX.out HN.out.1); have HY3 := Aside0.mk (ticks_blk HT.out HY.out HN.out.2); generalize w2.setCell ⟨sb, so, none⟩ (.int .i64 (wrap64 (k + 1))) = w3 at HT HX3 HY3 ⊢; refine wpList_load_mid rfl 39 (.tmp 11) rfl g3 0 rfl (lP e.p) _ (part_pf (range_row HX3.out)) Try.underlying39 rfl (infoEP HE.out) ?_)
    | ((with_reducible refine gate_dst (N := 13) rfl ?_); refine wpList_load_row rfl 39 (.tmp 4) rfl g4 rfl 39 (eP p) (0, 0) _ HY3.out Try.underlying39 rfl (infoEP HP.out) ?_)
    | (go_at_call 70; refine (cidr_Compare e.p p HE.out HP.out _).mono ?_; rintro r w4 ⟨rfl, hb⟩; have HF := Aside0.mk (below_ticks HS0.out HB.out (ticks_below HT.out hb)); clear hb))
  go_ret
  exact ⟨rfl, HF.out⟩
/-- How often a number can be halved. -/
def blen (n : Nat) : Nat := if h : n = 0 then 0 else blen (n / 2) + 1
decreasing_by omega
theorem blen_pos {n : Nat} (h : 0 < n) : blen n = blen (n / 2) + 1 := by rw [blen, dif_neg (by omega)]
theorem blen_zero : blen 0 = 0 := by rw [blen, dif_pos rfl]
theorem blen_mono : ∀ (n m : Nat), n ≤ m → blen n ≤ blen m := by
  intro n
  induction n using Nat.strongRecOn with
  | ind n ih =>
    intro m h
    by_cases hn : n = 0
    · subst hn; rw [blen_zero]; exact Nat.zero_le _
    · rw [blen_pos (show 0 < n by omega), blen_pos (show 0 < m by omega)]
      exact Nat.succ_le_succ (ih (n / 2) (by omega) (m / 2) (by omega))
theorem blen_le (n : Nat) : blen n ≤ n := by
  induction n using Nat.strongRecOn with
  | ind n ih =>
    by_cases hn : n = 0
    · subst hn; rw [blen_zero]; exact Nat.le_refl _
    · rw [blen_pos (show 0 < n by omega)]
      have := ih (n / 2) (by omega)
      omega
theorem mid_eq (lo hi : Nat) (h1 : lo ≤ 1000000) (h2 : hi ≤ 1000000) : wrap64 (IntKind.u64.wrap (wrap64 ((lo : Int) + (hi : Int))) / 2) = (((lo + hi) / 2 : Nat) : Int) := by
  have e1 : wrap64 ((lo : Int) + (hi : Int)) = ((lo + hi : Nat) : Int) := by unfold wrap64; omega
  rw [e1, wraps_u64 _ (Int.natCast_nonneg _) (by omega)]
  unfold wrap64
  omega
theorem wrap_cnt (k : Int) (m : Nat) (h0 : 0 ≤ k) (h1 : k ≤ 1000000000) (h2 : m ≤ 1000000) : wrap64 (k + (m : Int) + 1) = k + ((m + 1 : Nat) : Int) := by unfold wrap64; omega
/-- What a search's world knows. -/
structure Bs (w : World) (g4 B sb so G : Nat) (p : Pf) (tB t : TypeId) (cs : Array Value) (l : List En) (wr : World) (k : Int) : Prop where
  tgt : wr.heap[g4]? = some (.cells (eP p) 39 (0, 0))
  box : wr.heap[B]? = some (.cells #[.pointer (some ⟨sb, so, none⟩)] tB (0, 0))
  at_ : ∀ (i : Nat) (e : En), l[i]? = some e → wr.rangeAt G (i * 19) (lE e)
  cnt : wr.heap[sb]? = some (.cells (cs.setIfInBounds so (.int .i64 k)) t (0, 0))
  tck : Ticks sb so w wr k
theorem bs_ticks {w : World} {g4 B sb so G : Nat} {p : Pf} {tB t : TypeId} {cs : Array Value} {l : List En} {wr w' : World} {k k' : Int} (h : Bs w g4 B sb so G p tB t cs l wr k) (h1 : g4 ≠ sb) (h2 : B ≠ sb) (h3 : G ≠ sb) (ht : Ticks sb so wr w' k') : Bs w g4 B sb so G p tB t cs l w' k' :=
  ⟨ticks_blk ht h.tgt h1, ticks_blk ht h.box h2, fun i e he => ticks_range ht (h.at_ i e he) h3, by
    have := ht.same _ _ h.cnt
    rw [Array.setIfInBounds_setIfInBounds] at this
    exact this, ticks_trans h.tck ht⟩
theorem bs_below {w : World} {g4 B sb so G : Nat} {p : Pf} {tB t : TypeId} {cs : Array Value} {l : List En} {wr w' : World} {k : Int} (h : Bs w g4 B sb so G p tB t cs l wr k) (hb : Below wr.heap.size wr w') : Bs w g4 B sb so G p tB t cs l w' k :=
  ⟨blk_below h.tgt hb, blk_below h.box hb, fun i e he => range_below (h.at_ i e he) hb, blk_below h.cnt hb, ticks_below h.tck hb⟩
set_option maxHeartbeats 8000000 in
set_option maxRecDepth 100000 in
theorem bin_search (A : Option Addr) (n cap G : Nat) (l : List En) (hl : okE l) (p : Pf) (hp : p.a.ok) (B sb so : Nat) (tB t : TypeId) (cs : Array Value) (k : Int) (w : World)
    (hrd : Rd w 50 A n cap G l) (hB : w.heap[B]? = some (.cells #[.pointer (some ⟨sb, so, none⟩)] tB (0, 0))) (hs : w.heap[sb]? = some (.cells cs t (0, 0))) (hk : cs[so]? = some (.int .i64 k)) (hBs : B ≠ sb) (hGs : G ≠ sb) (hn : n ≤ 1000000) (hk0 : 0 ≤ k) (hk1 : k ≤ 1000000000)
    (hmono : ∀ (i j : Nat) (x y : En), i ≤ j → l[i]? = some x → l[j]? = some y → cmpP y.p p < 0 → cmpP x.p p < 0) :
    Calls Try.prog 68 #[.slice A n cap, .agg (eP p), .func (.func 69) #[] #[.pointer (some ⟨B, 0, none⟩)]] w fun r w' => ∃ (i : Nat) (b : Bool) (m : Nat), r = .returned (.tuple #[.int .i64 (i : Int), .bool b]) ∧
      Ticks sb so w w' (k + (m : Int)) ∧ m ≤ blen n + 1 ∧ i ≤ n ∧ (∀ (j : Nat) (x : En), j < i → l[j]? = some x → cmpP x.p p < 0) ∧ (∀ (j : Nat) (x : En), i ≤ j → l[j]? = some x → 0 ≤ cmpP x.p p) ∧ (b = true ↔ ∃ x, l[i]? = some x ∧ cmpP x.p p = 0) := by
  have HB := Aside0.mk (Below.refl w.heap.size w)
  have HP := Aside0.mk hp
  have HL := Aside0.mk hl
  have HRD := Aside0.mk hrd
  have HBX := Aside0.mk hB
  have HSB := Aside0.mk hs
  have HKK := Aside0.mk hk
  have HNE := Aside0.mk (show B ≠ sb ∧ G ≠ sb from ⟨hBs, hGs⟩)
  have HNN := Aside0.mk (show n ≤ 1000000 ∧ 0 ≤ k ∧ k ≤ 1000000000 from ⟨hn, hk0, hk1⟩)
  have HMO := Aside0.mk hmono
  clear hp hl hrd hB hs hk hBs hGs hn hk0 hk1 hmono
  go_enter Try.func68, Try.ntmps68
  go_wp2_with (first
    | ((with_reducible refine gate_dst (N := 4) rfl ?_); refine box_event ?hg (N := 4) ?hd (cs := eP p) (t := 39) ?hr ?_; (case hd => rfl); (case hg => rfl); (case hr => first | (go_simp; done) | (go_simp; rfl)); intro g4 hg w1 hbox hb; have HN4 := Aside0.mk (show g4 ≠ sb by rw [hg]; exact Ne.symm (Nat.ne_of_lt (blk_lt (blk_later HSB.out)))); have HBS := Aside0.mk (show Bs w g4 B sb so G p tB t cs l w1 k from ⟨hbox, blk_below (blk_later HBX.out) hb, fun i e he => range_below (HRD.out.at_ i e he) (below_step (bel_later HB.out) hb), by (have h1 := ticks_below (ticks_refl HSB.out HKK.out) (below_step (bel_later HB.out) hb)); exact h1.same _ _ HSB.out, ticks_below (ticks_refl HSB.out HKK.out) (below_step (bel_later HB.out) hb)⟩); clear hb hg hbox))
  go_loopw [9, 10] (fun v9 v10 wr => ∃ (lo hi m : Nat), v9 = .int .i64 (lo : Int) ∧ v10 = .int .i64 (hi : Int) ∧ Aside0 (lo ≤ hi ∧ hi ≤ n ∧ m + blen (hi - lo) ≤ blen n) ∧ Aside0 (∀ (j : Nat) (x : En), j < lo → l[j]? = some x → cmpP x.p p < 0) ∧ Aside0 (∀ (j : Nat) (x : En), hi ≤ j → l[j]? = some x → 0 ≤ cmpP x.p p) ∧ Aside0 (Bs w g4 B sb so G p tB t cs l wr (k + (m : Int)))) (fun v9 v10 _ => (intOf v10).toNat - (intOf v9).toNat)
  case atStart => exact ⟨0, n, 0, rfl, rfl, ⟨Nat.zero_le _, Nat.le_refl _, by rw [Nat.sub_zero]; omega⟩, ⟨fun j x hj => absurd hj (Nat.not_lt_zero _)⟩, ⟨fun j x hj hx => by
    have := (List.getElem?_eq_some_iff.1 hx).1
    have := HRD.out.len
    omega⟩, ⟨by
    rw [show k + ((0 : Nat) : Int) = k by omega]
    exact HBS.out⟩⟩
  case round =>
    obtain ⟨lo, hi, m, rfl, rfl, HI, HLO, HHI, HST⟩ := hrel
    clear HBS
    by_cases hlt : lo < hi
    · have c0 : decide ((lo : Int) < (hi : Int)) = true := decide_eq_true (by omega)
      have c1 : decide (lo < hi) = true := decide_eq_true hlt
      obtain ⟨h, hh⟩ : ∃ h : Nat, h = (lo + hi) / 2 := ⟨_, rfl⟩
      have eh : wrap64 (IntKind.u64.wrap (wrap64 ((lo : Int) + (hi : Int))) / 2) = (h : Int) := by rw [hh]; exact mid_eq lo hi (by have := HI.out; have := HNN.out.1; omega) (by have := HI.out; have := HNN.out.1; omega)
      have HH := Aside0.mk hh
      have HHN := Aside0.mk (show h < n by have := HI.out; omega)
      have HLT := Aside0.mk hlt
      have e4 : wrap64 ((h : Int) + 1) = ((h + 1 : Nat) : Int) := wrap_sm1 h (by have := HHN.out; have := HNN.out.1; omega)
      have HE4 := Aside0.mk e4
      obtain ⟨e, he⟩ : ∃ e, l[h]? = some e := ⟨l[h]'(by have := HRD.out.len; have := HHN.out; omega), List.getElem?_eq_getElem _⟩
      have HE := Aside0.mk he
      clear hlt hh he
      have HCK := Aside0.mk (show (cs.setIfInBounds so (.int .i64 (k + (m : Int))))[so]? = some (.int .i64 (k + (m : Int))) by
        rw [Array.getElem?_setIfInBounds, if_pos rfl, if_pos (Array.getElem?_eq_some_iff.1 HKK.out).1])
      have EK := Aside0.mk (wrap_cnt k m HNN.out.2.1 HNN.out.2.2 (by have := HI.out.2.2; have := blen_le n; have := HNN.out.1; omega))
      by_cases hc : cmpP e.p p < 0
      · have c4b0 : decide (cmpP e.p p < 0) = true := decide_eq_true hc
        have HC := Aside0.mk (hc)
        clear hc
        go_wp2
        obtain ⟨S, hS⟩ : ∃ S : World → Prop, S = fun w' => ∃ m' : Nat, Bs w g4 B sb so G p tB t cs l w' (k + (m' : Int)) := ⟨_, rfl⟩
        have HSx := Aside0.mk (show ∀ x : World, S x → x.heap[g4]? = some (.cells (eP p) 39 (0, 0)) ∧ ∀ (i : Nat) (e : En), l[i]? = some e → x.rangeAt G (i * 19) (lE e) by
          intro b h
          rw [hS] at h
          obtain ⟨m', h⟩ := h
          exact ⟨h.tgt, h.at_⟩)
        have HSy := Aside0.mk (show ∀ (x : World) (m' : Nat), Bs w g4 B sb so G p tB t cs l x (k + (m' : Int)) → S x by
          intro b m' h
          rw [hS]
          exact ⟨m', h⟩)
        clear hS
        have HD := Aside0.mk (bs_below HST.out (show Below wr.heap.size wr wr.drew from bel_later (Below.refl _ _)))
        have s0 : S wr.drew := HSy.out _ m HD.out
        refine wp_region_held_drew (S := S) (by kernel_rfl) s0 (fun _ => ?_)
        refine wpAnyH_take (i := 0) (v := .func (.func 69) #[] #[.pointer (some ⟨B, 0, none⟩)]) rfl (by kernel_rfl) (by kernel_rfl) (by kernel_rfl) (fun _ _ _ h => h) (Or.inl ⟨by kernel_rfl, fun w' hw => by first | (go_simp; done) | (go_simp; rfl)⟩) s0 ?_
        (try simp only [Act.put, List.getElem_toArray, List.getElem_cons_succ, List.getElem_cons_zero, List.setIfInBounds_toArray, List.set_cons_zero, List.set_cons_succ])
        refine wpAnyH_take (i := 1) (v := .slice A n cap) rfl (by kernel_rfl) (by kernel_rfl) (by kernel_rfl) (fun _ _ _ h => h) (Or.inl ⟨by kernel_rfl, fun w' hw => by first | (go_simp; done) | (go_simp; rfl)⟩) s0 ?_
        (try simp only [Act.put, List.getElem_toArray, List.getElem_cons_succ, List.getElem_cons_zero, List.setIfInBounds_toArray, List.set_cons_zero, List.set_cons_succ])
        refine wpAnyH_take (i := 2) (v := .int .i64 (h : Int)) rfl (by kernel_rfl) (by kernel_rfl) (by kernel_rfl) (fun _ _ _ h => h) (Or.inl ⟨by kernel_rfl, fun w' hw => by first | (go_simp; done) | (go_simp; rfl)⟩) s0 ?_
        (try simp only [Act.put, List.getElem_toArray, List.getElem_cons_succ, List.getElem_cons_zero, List.setIfInBounds_toArray, List.set_cons_zero, List.set_cons_succ])
        refine wpAnyH_take (i := 3) (v := .pointer (some ⟨G, h * 19, none⟩)) rfl (by kernel_rfl) (by kernel_rfl) (by kernel_rfl) (fun _ _ _ h => h) (Or.inl ⟨by kernel_rfl, fun w' hw => by have hf := HRD.out.idx w' h HHN.out; first | (go_simp; done) | (go_simp; rfl)⟩) s0 ?_
        (try simp only [Act.put, List.getElem_toArray, List.getElem_cons_succ, List.getElem_cons_zero, List.setIfInBounds_toArray, List.set_cons_zero, List.set_cons_succ])
        refine wpAnyH_take (i := 4) (v := .agg (lE e).toArray) rfl ?m04b ?m04c ?m04d (fun _ _ _ h => h) ?m04e s0 ?m04f
        case m04b => kernel_rfl
        case m04c => kernel_rfl
        case m04d => kernel_rfl
        case m04e =>
          refine yieldsIf_load_mid ?m04g 42 (.tmp 27) ?m04h G (h * 19) ?m04i (lE e) _ ?m04j Try.underlying42 ?m04k ((show (Try.prog.info? 42).map (·.size) = some (lE e).length by rw [lE_len (HL.out e (List.mem_of_getElem? HE.out))]; exact infoEn))
          case m04g => kernel_rfl
          case m04h => kernel_rfl
          case m04i => kernel_rfl
          case m04k => kernel_rfl
          case m04j => exact fun w' hw => (HSx.out w' hw).2 h e HE.out
        (try simp only [Act.put, List.getElem_toArray, List.getElem_cons_succ, List.getElem_cons_zero, List.setIfInBounds_toArray, List.set_cons_zero, List.set_cons_succ])
        refine wpAnyH_take (i := 5) (v := .agg (eP p)) rfl ?q05b ?q05c ?q05d (fun _ _ _ h => h) ?q05e s0 ?q05f
        case q05b => kernel_rfl
        case q05c => kernel_rfl
        case q05d => kernel_rfl
        case q05e => exact yields_row (by kernel_rfl) 39 (.tmp 4) rfl g4 rfl 39 (eP p) (0, 0) _ (fun w' hw => (HSx.out w' hw).1) Try.underlying39 rfl (infoEP HP.out)
        (try simp only [Act.put, List.getElem_toArray, List.getElem_cons_succ, List.getElem_cons_zero, List.setIfInBounds_toArray, List.set_cons_zero, List.set_cons_succ])
        refine held_step (i := 6) (by kernel_rfl) rfl (by kernel_rfl) (fun K hK => ?_)
        go_simp
        refine (search_cmp e p (HL.out e (List.mem_of_getElem? HE.out)) HP.out B sb so tB t _ (k + (m : Int)) wr.drew HD.out.box HD.out.cnt HCK.out).mono ?_
        rintro r w6 ⟨rfl, ht⟩
        rw [EK.out] at ht
        have HST2 := Aside0.mk (bs_ticks HD.out HN4.out HNE.out.1 HNE.out.2 ht)
        have s1 : S w6 := HSy.out _ (m + 1) HST2.out
        clear ht
        refine hK.out _ _ s1 ?_
        clear hK K
        (try simp only [Act.put, List.getElem_toArray, List.getElem_cons_succ, List.getElem_cons_zero, List.setIfInBounds_toArray, List.set_cons_zero, List.set_cons_succ])
        refine held_step (i := 7) (by kernel_rfl) rfl (by kernel_rfl) (fun K hK => ?_)
        go_wp2
        refine hK.out _ _ s1 ?_
        clear hK K
        (try simp only [Act.put, List.getElem_toArray, List.getElem_cons_succ, List.getElem_cons_zero, List.setIfInBounds_toArray, List.set_cons_zero, List.set_cons_succ])
        refine wpAnyH_done (by kernel_rfl) ?_ _
        clear s0 s1
        go_wp2
        go_roundw
        case rel => exact ⟨h + 1, hi, m + 1, (by first | rfl | exact congrArg (Value.int .i64) HE4.out), rfl, ⟨by have := HI.out; have := HH.out; have := HLT.out; omega, HI.out.2.1, by
            have h1 := HI.out.2.2
            have h2 := blen_pos (show 0 < hi - lo by have := HLT.out; omega)
            have h3 := blen_mono (hi - (h + 1)) ((hi - lo) / 2) (by have := HH.out; have := HLT.out; omega)
            omega⟩, ⟨fun j x hj hx => HMO.out j h x e (by omega) hx HE.out HC.out⟩, HHI, HST2⟩
        case measure =>
          rw [HE4.out]
          show ((hi : Int)).toNat - (((h + 1 : Nat) : Int)).toNat < ((hi : Int)).toNat - ((lo : Int)).toNat
          rw [Int.toNat_natCast, Int.toNat_natCast, Int.toNat_natCast]
          have := HH.out; have := HLT.out; omega
      · have c4b0 : decide (cmpP e.p p < 0) = false := decide_eq_false hc
        have HC := Aside0.mk (Int.not_lt.1 hc)
        clear hc
        go_wp2
        obtain ⟨S, hS⟩ : ∃ S : World → Prop, S = fun w' => ∃ m' : Nat, Bs w g4 B sb so G p tB t cs l w' (k + (m' : Int)) := ⟨_, rfl⟩
        have HSx := Aside0.mk (show ∀ x : World, S x → x.heap[g4]? = some (.cells (eP p) 39 (0, 0)) ∧ ∀ (i : Nat) (e : En), l[i]? = some e → x.rangeAt G (i * 19) (lE e) by
          intro b h
          rw [hS] at h
          obtain ⟨m', h⟩ := h
          exact ⟨h.tgt, h.at_⟩)
        have HSy := Aside0.mk (show ∀ (x : World) (m' : Nat), Bs w g4 B sb so G p tB t cs l x (k + (m' : Int)) → S x by
          intro b m' h
          rw [hS]
          exact ⟨m', h⟩)
        clear hS
        have HD := Aside0.mk (bs_below HST.out (show Below wr.heap.size wr wr.drew from bel_later (Below.refl _ _)))
        have s0 : S wr.drew := HSy.out _ m HD.out
        refine wp_region_held_drew (S := S) (by kernel_rfl) s0 (fun _ => ?_)
        refine wpAnyH_take (i := 0) (v := .func (.func 69) #[] #[.pointer (some ⟨B, 0, none⟩)]) rfl (by kernel_rfl) (by kernel_rfl) (by kernel_rfl) (fun _ _ _ h => h) (Or.inl ⟨by kernel_rfl, fun w' hw => by first | (go_simp; done) | (go_simp; rfl)⟩) s0 ?_
        (try simp only [Act.put, List.getElem_toArray, List.getElem_cons_succ, List.getElem_cons_zero, List.setIfInBounds_toArray, List.set_cons_zero, List.set_cons_succ])
        refine wpAnyH_take (i := 1) (v := .slice A n cap) rfl (by kernel_rfl) (by kernel_rfl) (by kernel_rfl) (fun _ _ _ h => h) (Or.inl ⟨by kernel_rfl, fun w' hw => by first | (go_simp; done) | (go_simp; rfl)⟩) s0 ?_
        (try simp only [Act.put, List.getElem_toArray, List.getElem_cons_succ, List.getElem_cons_zero, List.setIfInBounds_toArray, List.set_cons_zero, List.set_cons_succ])
        refine wpAnyH_take (i := 2) (v := .int .i64 (h : Int)) rfl (by kernel_rfl) (by kernel_rfl) (by kernel_rfl) (fun _ _ _ h => h) (Or.inl ⟨by kernel_rfl, fun w' hw => by first | (go_simp; done) | (go_simp; rfl)⟩) s0 ?_
        (try simp only [Act.put, List.getElem_toArray, List.getElem_cons_succ, List.getElem_cons_zero, List.setIfInBounds_toArray, List.set_cons_zero, List.set_cons_succ])
        refine wpAnyH_take (i := 3) (v := .pointer (some ⟨G, h * 19, none⟩)) rfl (by kernel_rfl) (by kernel_rfl) (by kernel_rfl) (fun _ _ _ h => h) (Or.inl ⟨by kernel_rfl, fun w' hw => by have hf := HRD.out.idx w' h HHN.out; first | (go_simp; done) | (go_simp; rfl)⟩) s0 ?_
        (try simp only [Act.put, List.getElem_toArray, List.getElem_cons_succ, List.getElem_cons_zero, List.setIfInBounds_toArray, List.set_cons_zero, List.set_cons_succ])
        refine wpAnyH_take (i := 4) (v := .agg (lE e).toArray) rfl ?m14b ?m14c ?m14d (fun _ _ _ h => h) ?m14e s0 ?m14f
        case m14b => kernel_rfl
        case m14c => kernel_rfl
        case m14d => kernel_rfl
        case m14e =>
          refine yieldsIf_load_mid ?m14g 42 (.tmp 27) ?m14h G (h * 19) ?m14i (lE e) _ ?m14j Try.underlying42 ?m14k ((show (Try.prog.info? 42).map (·.size) = some (lE e).length by rw [lE_len (HL.out e (List.mem_of_getElem? HE.out))]; exact infoEn))
          case m14g => kernel_rfl
          case m14h => kernel_rfl
          case m14i => kernel_rfl
          case m14k => kernel_rfl
          case m14j => exact fun w' hw => (HSx.out w' hw).2 h e HE.out
        (try simp only [Act.put, List.getElem_toArray, List.getElem_cons_succ, List.getElem_cons_zero, List.setIfInBounds_toArray, List.set_cons_zero, List.set_cons_succ])
        refine wpAnyH_take (i := 5) (v := .agg (eP p)) rfl ?q15b ?q15c ?q15d (fun _ _ _ h => h) ?q15e s0 ?q15f
        case q15b => kernel_rfl
        case q15c => kernel_rfl
        case q15d => kernel_rfl
        case q15e => exact yields_row (by kernel_rfl) 39 (.tmp 4) rfl g4 rfl 39 (eP p) (0, 0) _ (fun w' hw => (HSx.out w' hw).1) Try.underlying39 rfl (infoEP HP.out)
        (try simp only [Act.put, List.getElem_toArray, List.getElem_cons_succ, List.getElem_cons_zero, List.setIfInBounds_toArray, List.set_cons_zero, List.set_cons_succ])
        refine held_step (i := 6) (by kernel_rfl) rfl (by kernel_rfl) (fun K hK => ?_)
        go_simp
        refine (search_cmp e p (HL.out e (List.mem_of_getElem? HE.out)) HP.out B sb so tB t _ (k + (m : Int)) wr.drew HD.out.box HD.out.cnt HCK.out).mono ?_
        rintro r w6 ⟨rfl, ht⟩
        rw [EK.out] at ht
        have HST2 := Aside0.mk (bs_ticks HD.out HN4.out HNE.out.1 HNE.out.2 ht)
        have s1 : S w6 := HSy.out _ (m + 1) HST2.out
        clear ht
        refine hK.out _ _ s1 ?_
        clear hK K
        (try simp only [Act.put, List.getElem_toArray, List.getElem_cons_succ, List.getElem_cons_zero, List.setIfInBounds_toArray, List.set_cons_zero, List.set_cons_succ])
        refine held_step (i := 7) (by kernel_rfl) rfl (by kernel_rfl) (fun K hK => ?_)
        go_wp2
        refine hK.out _ _ s1 ?_
        clear hK K
        (try simp only [Act.put, List.getElem_toArray, List.getElem_cons_succ, List.getElem_cons_zero, List.setIfInBounds_toArray, List.set_cons_zero, List.set_cons_succ])
        refine wpAnyH_done (by kernel_rfl) ?_ _
        clear s0 s1
        go_wp2
        go_roundw
        case rel => exact ⟨lo, h, m + 1, rfl, rfl, ⟨by have := HI.out; have := HH.out; have := HLT.out; omega, Nat.le_of_lt HHN.out, by
            have h1 := HI.out.2.2
            have h2 := blen_pos (show 0 < hi - lo by have := HLT.out; omega)
            have h3 := blen_mono (h - lo) ((hi - lo) / 2) (by have := HH.out; have := HLT.out; omega)
            omega⟩, HLO, ⟨fun j x hj hx => Int.not_lt.1 (fun hneg => absurd (HMO.out h j e x hj HE.out hx hneg) (Int.not_lt.2 HC.out))⟩, HST2⟩
        case measure =>
          show ((h : Int)).toNat - ((lo : Int)).toNat < ((hi : Int)).toNat - ((lo : Int)).toNat
          rw [Int.toNat_natCast, Int.toNat_natCast, Int.toNat_natCast]
          have := HH.out; have := HLT.out; omega
    · obtain rfl : hi = lo := by have := HI.out.1; omega
      have c0 : decide ((hi : Int) < (hi : Int)) = false := decide_eq_false (by omega)
      clear hlt
      have HCK := Aside0.mk (show (cs.setIfInBounds so (.int .i64 (k + (m : Int))))[so]? = some (.int .i64 (k + (m : Int))) by
        rw [Array.getElem?_setIfInBounds, if_pos rfl, if_pos (Array.getElem?_eq_some_iff.1 HKK.out).1])
      have EK := Aside0.mk (wrap_cnt k m HNN.out.2.1 HNN.out.2.2 (by have := HI.out.2.2; have := blen_le n; have := HNN.out.1; omega))
      by_cases hn2 : hi < n
      · have c5b0 : decide ((hi : Int) < (n : Int)) = true := decide_eq_true (by omega)
        have c5b1 : decide (hi < n) = true := decide_eq_true hn2
        obtain ⟨e, he⟩ : ∃ e, l[hi]? = some e := ⟨l[hi]'(by have := HRD.out.len; omega), List.getElem?_eq_getElem _⟩
        have HE := Aside0.mk he
        have HHN := Aside0.mk hn2
        clear hn2 he
        go_wp2
        obtain ⟨S, hS⟩ : ∃ S : World → Prop, S = fun w' => ∃ m' : Nat, Bs w g4 B sb so G p tB t cs l w' (k + (m' : Int)) := ⟨_, rfl⟩
        have HSx := Aside0.mk (show ∀ x : World, S x → x.heap[g4]? = some (.cells (eP p) 39 (0, 0)) ∧ ∀ (i : Nat) (e : En), l[i]? = some e → x.rangeAt G (i * 19) (lE e) by
          intro b h
          rw [hS] at h
          obtain ⟨m', h⟩ := h
          exact ⟨h.tgt, h.at_⟩)
        have HSy := Aside0.mk (show ∀ (x : World) (m' : Nat), Bs w g4 B sb so G p tB t cs l x (k + (m' : Int)) → S x by
          intro b m' h
          rw [hS]
          exact ⟨m', h⟩)
        clear hS
        have HD := Aside0.mk (bs_below HST.out (show Below wr.heap.size wr wr.drew from bel_later (Below.refl _ _)))
        have s0 : S wr.drew := HSy.out _ m HD.out
        refine wp_region_held_drew (S := S) (by kernel_rfl) s0 (fun _ => ?_)
        refine wpAnyH_take (i := 0) (v := .int .i64 (hi : Int)) rfl (by kernel_rfl) (by kernel_rfl) (by kernel_rfl) (fun _ _ _ h => h) (Or.inl ⟨by kernel_rfl, fun w' h => by first | (go_simp; done) | (go_simp; rfl)⟩) s0 ?_
        (try simp only [Act.put, List.getElem_toArray, List.getElem_cons_succ, List.getElem_cons_zero, List.setIfInBounds_toArray, List.set_cons_zero, List.set_cons_succ])
        refine wpAnyH_take (i := 1) (v := .int .i64 (hi : Int)) rfl (by kernel_rfl) (by kernel_rfl) (by kernel_rfl) (fun _ _ _ h => h) (Or.inl ⟨by kernel_rfl, fun w' h => by first | (go_simp; done) | (go_simp; rfl)⟩) s0 ?_
        (try simp only [Act.put, List.getElem_toArray, List.getElem_cons_succ, List.getElem_cons_zero, List.setIfInBounds_toArray, List.set_cons_zero, List.set_cons_succ])
        refine wpAnyH_take (i := 2) (v := .int .i64 (n : Int)) rfl (by kernel_rfl) (by kernel_rfl) (by kernel_rfl) (fun _ _ _ h => h) (Or.inl ⟨by kernel_rfl, fun w' h => by first | (go_simp; done) | (go_simp; rfl)⟩) s0 ?_
        (try simp only [Act.put, List.getElem_toArray, List.getElem_cons_succ, List.getElem_cons_zero, List.setIfInBounds_toArray, List.set_cons_zero, List.set_cons_succ])
        refine wpAnyH_take (i := 3) (v := .bool true) rfl (by kernel_rfl) (by kernel_rfl) (by kernel_rfl) (fun _ _ _ h => h) (Or.inl ⟨by kernel_rfl, fun w' h => by first | (go_simp; done) | (go_simp; rfl)⟩) s0 ?_
        (try simp only [Act.put, List.getElem_toArray, List.getElem_cons_succ, List.getElem_cons_zero, List.setIfInBounds_toArray, List.set_cons_zero, List.set_cons_succ])
        refine wpAnyH_take (i := 4) (v := .bool true) rfl (by kernel_rfl) (by kernel_rfl) (by kernel_rfl) (fun _ _ _ h => h) (Or.inl ⟨by kernel_rfl, fun w' h => by first | (go_simp; done) | (go_simp; rfl)⟩) s0 ?_
        (try simp only [Act.put, List.getElem_toArray, List.getElem_cons_succ, List.getElem_cons_zero, List.setIfInBounds_toArray, List.set_cons_zero, List.set_cons_succ])
        refine wpAnyH_take (i := 5) (v := .func (.func 69) #[] #[.pointer (some ⟨B, 0, none⟩)]) rfl (by kernel_rfl) (by kernel_rfl) (by kernel_rfl) (fun _ _ _ h => h) (Or.inl ⟨by kernel_rfl, fun w' h => by first | (go_simp; done) | (go_simp; rfl)⟩) s0 ?_
        (try simp only [Act.put, List.getElem_toArray, List.getElem_cons_succ, List.getElem_cons_zero, List.setIfInBounds_toArray, List.set_cons_zero, List.set_cons_succ])
        refine wpAnyH_take (i := 6) (v := .slice A n cap) rfl (by kernel_rfl) (by kernel_rfl) (by kernel_rfl) (fun _ _ _ h => h) (Or.inl ⟨by kernel_rfl, fun w' h => by first | (go_simp; done) | (go_simp; rfl)⟩) s0 ?_
        (try simp only [Act.put, List.getElem_toArray, List.getElem_cons_succ, List.getElem_cons_zero, List.setIfInBounds_toArray, List.set_cons_zero, List.set_cons_succ])
        refine wpAnyH_take (i := 7) (v := .int .i64 (hi : Int)) rfl (by kernel_rfl) (by kernel_rfl) (by kernel_rfl) (fun _ _ _ h => h) (Or.inl ⟨by kernel_rfl, fun w' h => by first | (go_simp; done) | (go_simp; rfl)⟩) s0 ?_
        (try simp only [Act.put, List.getElem_toArray, List.getElem_cons_succ, List.getElem_cons_zero, List.setIfInBounds_toArray, List.set_cons_zero, List.set_cons_succ])
        refine wpAnyH_take (i := 8) (v := .pointer (some ⟨G, hi * 19, none⟩)) rfl (by kernel_rfl) (by kernel_rfl) (by kernel_rfl) (fun _ _ _ h => h) (Or.inl ⟨by kernel_rfl, fun w' h => by have hf := HRD.out.idx w' hi HHN.out; first | (go_simp; done) | (go_simp; rfl)⟩) s0 ?_
        (try simp only [Act.put, List.getElem_toArray, List.getElem_cons_succ, List.getElem_cons_zero, List.setIfInBounds_toArray, List.set_cons_zero, List.set_cons_succ])
        refine wpAnyH_take (i := 9) (v := .agg (lE e).toArray) rfl ?m29b ?m29c ?m29d (fun _ _ _ h => h) ?m29e s0 ?m29f
        case m29b => kernel_rfl
        case m29c => kernel_rfl
        case m29d => kernel_rfl
        case m29e =>
          refine yieldsIf_load_mid ?m29g 42 (.tmp 43) ?m29h G (hi * 19) ?m29i (lE e) _ ?m29j Try.underlying42 ?m29k ((show (Try.prog.info? 42).map (·.size) = some (lE e).length by rw [lE_len (HL.out e (List.mem_of_getElem? HE.out))]; exact infoEn))
          case m29g => kernel_rfl
          case m29h => kernel_rfl
          case m29i => kernel_rfl
          case m29k => kernel_rfl
          case m29j => exact fun w' hw => (HSx.out w' hw).2 hi e HE.out
        (try simp only [Act.put, List.getElem_toArray, List.getElem_cons_succ, List.getElem_cons_zero, List.setIfInBounds_toArray, List.set_cons_zero, List.set_cons_succ])
        refine wpAnyH_take (i := 10) (v := .agg (eP p)) rfl ?q210b ?q210c ?q210d (fun _ _ _ h => h) ?q210e s0 ?q210f
        case q210b => kernel_rfl
        case q210c => kernel_rfl
        case q210d => kernel_rfl
        case q210e => exact yields_row (by kernel_rfl) 39 (.tmp 4) rfl g4 rfl 39 (eP p) (0, 0) _ (fun w' hw => (HSx.out w' hw).1) Try.underlying39 rfl (infoEP HP.out)
        (try simp only [Act.put, List.getElem_toArray, List.getElem_cons_succ, List.getElem_cons_zero, List.setIfInBounds_toArray, List.set_cons_zero, List.set_cons_succ])
        refine held_step (i := 11) (by kernel_rfl) rfl (by kernel_rfl) (fun K hK => ?_)
        go_simp
        refine (search_cmp e p (HL.out e (List.mem_of_getElem? HE.out)) HP.out B sb so tB t _ (k + (m : Int)) wr.drew HD.out.box HD.out.cnt HCK.out).mono ?_
        rintro r w6 ⟨rfl, ht⟩
        rw [EK.out] at ht
        have HST2 := Aside0.mk (bs_ticks HD.out HN4.out HNE.out.1 HNE.out.2 ht)
        have s1 : S w6 := HSy.out _ (m + 1) HST2.out
        clear ht
        refine hK.out _ _ s1 ?_
        clear hK K
        (try simp only [Act.put, List.getElem_toArray, List.getElem_cons_succ, List.getElem_cons_zero, List.setIfInBounds_toArray, List.set_cons_zero, List.set_cons_succ])
        refine wpAnyH_take (i := 12) (v := .bool (cmpP e.p p == 0)) rfl (by kernel_rfl) (by kernel_rfl) (by kernel_rfl) (fun _ _ _ h => h) (Or.inl ⟨by kernel_rfl, fun w' h => by first | (go_simp; done) | (go_simp; rfl)⟩) s1 ?_
        (try simp only [Act.put, List.getElem_toArray, List.getElem_cons_succ, List.getElem_cons_zero, List.setIfInBounds_toArray, List.set_cons_zero, List.set_cons_succ])
        refine wpAnyH_take (i := 13) (v := .bool (cmpP e.p p == 0)) rfl (by kernel_rfl) (by kernel_rfl) (by kernel_rfl) (fun _ _ _ h => h) (Or.inl ⟨by kernel_rfl, fun w' h => by first | (go_simp; done) | (go_simp; rfl)⟩) s1 ?_
        (try simp only [Act.put, List.getElem_toArray, List.getElem_cons_succ, List.getElem_cons_zero, List.setIfInBounds_toArray, List.set_cons_zero, List.set_cons_succ])
        refine wpAnyH_take (i := 14) (v := .int .i64 (hi : Int)) rfl (by kernel_rfl) (by kernel_rfl) (by kernel_rfl) (fun _ _ _ h => h) (Or.inl ⟨by kernel_rfl, fun w' h => by first | (go_simp; done) | (go_simp; rfl)⟩) s1 ?_
        (try simp only [Act.put, List.getElem_toArray, List.getElem_cons_succ, List.getElem_cons_zero, List.setIfInBounds_toArray, List.set_cons_zero, List.set_cons_succ])
        refine wpAnyH_take (i := 15) (v := .bool (cmpP e.p p == 0)) rfl (by kernel_rfl) (by kernel_rfl) (by kernel_rfl) (fun _ _ _ h => h) (Or.inl ⟨by kernel_rfl, fun w' h => by first | (go_simp; done) | (go_simp; rfl)⟩) s1 ?_
        (try simp only [Act.put, List.getElem_toArray, List.getElem_cons_succ, List.getElem_cons_zero, List.setIfInBounds_toArray, List.set_cons_zero, List.set_cons_succ])
        refine wpAnyH_done (by kernel_rfl) ?_ _
        clear s0 s1
        go_wp2
        go_ret2
        exact ⟨hi, cmpP e.p p == 0, m + 1, rfl, HST2.out.tck, by have := HI.out.2.2; omega, HI.out.2.1, HLO.out, HHI.out, by
          rw [HE.out, beq_iff_eq]
          exact ⟨fun h => ⟨e, rfl, h⟩, fun ⟨x, h1, h2⟩ => by cases h1; exact h2⟩⟩
      · have c5b0 : decide ((hi : Int) < (n : Int)) = false := decide_eq_false (by omega)
        have c5b1 : decide (hi < n) = false := decide_eq_false hn2
        have HHN := Aside0.mk hn2
        clear hn2
        go_wp2
        obtain ⟨S, hS⟩ : ∃ S : World → Prop, S = fun w' => ∃ m' : Nat, Bs w g4 B sb so G p tB t cs l w' (k + (m' : Int)) := ⟨_, rfl⟩
        have HSx := Aside0.mk (show ∀ x : World, S x → x.heap[g4]? = some (.cells (eP p) 39 (0, 0)) ∧ ∀ (i : Nat) (e : En), l[i]? = some e → x.rangeAt G (i * 19) (lE e) by
          intro b h
          rw [hS] at h
          obtain ⟨m', h⟩ := h
          exact ⟨h.tgt, h.at_⟩)
        have HSy := Aside0.mk (show ∀ (x : World) (m' : Nat), Bs w g4 B sb so G p tB t cs l x (k + (m' : Int)) → S x by
          intro b m' h
          rw [hS]
          exact ⟨m', h⟩)
        clear hS
        have HD := Aside0.mk (bs_below HST.out (show Below wr.heap.size wr wr.drew from bel_later (Below.refl _ _)))
        have s0 : S wr.drew := HSy.out _ m HD.out
        refine wp_region_held_drew (S := S) (by kernel_rfl) s0 (fun _ => ?_)
        refine wpAnyH_take (i := 0) (v := .int .i64 (hi : Int)) rfl (by kernel_rfl) (by kernel_rfl) (by kernel_rfl) (fun _ _ _ h => h) (Or.inl ⟨by kernel_rfl, fun w' h => by first | (go_simp; done) | (go_simp; rfl)⟩) s0 ?_
        (try simp only [Act.put, List.getElem_toArray, List.getElem_cons_succ, List.getElem_cons_zero, List.setIfInBounds_toArray, List.set_cons_zero, List.set_cons_succ])
        refine wpAnyH_take (i := 1) (v := .int .i64 (hi : Int)) rfl (by kernel_rfl) (by kernel_rfl) (by kernel_rfl) (fun _ _ _ h => h) (Or.inl ⟨by kernel_rfl, fun w' h => by first | (go_simp; done) | (go_simp; rfl)⟩) s0 ?_
        (try simp only [Act.put, List.getElem_toArray, List.getElem_cons_succ, List.getElem_cons_zero, List.setIfInBounds_toArray, List.set_cons_zero, List.set_cons_succ])
        refine wpAnyH_take (i := 2) (v := .int .i64 (n : Int)) rfl (by kernel_rfl) (by kernel_rfl) (by kernel_rfl) (fun _ _ _ h => h) (Or.inl ⟨by kernel_rfl, fun w' h => by first | (go_simp; done) | (go_simp; rfl)⟩) s0 ?_
        (try simp only [Act.put, List.getElem_toArray, List.getElem_cons_succ, List.getElem_cons_zero, List.setIfInBounds_toArray, List.set_cons_zero, List.set_cons_succ])
        refine wpAnyH_take (i := 3) (v := .bool false) rfl (by kernel_rfl) (by kernel_rfl) (by kernel_rfl) (fun _ _ _ h => h) (Or.inl ⟨by kernel_rfl, fun w' h => by first | (go_simp; done) | (go_simp; rfl)⟩) s0 ?_
        (try simp only [Act.put, List.getElem_toArray, List.getElem_cons_succ, List.getElem_cons_zero, List.setIfInBounds_toArray, List.set_cons_zero, List.set_cons_succ])
        refine wpAnyH_take (i := 4) (v := .bool false) rfl (by kernel_rfl) (by kernel_rfl) (by kernel_rfl) (fun _ _ _ h => h) (Or.inl ⟨by kernel_rfl, fun w' h => by first | (go_simp; done) | (go_simp; rfl)⟩) s0 ?_
        (try simp only [Act.put, List.getElem_toArray, List.getElem_cons_succ, List.getElem_cons_zero, List.setIfInBounds_toArray, List.set_cons_zero, List.set_cons_succ])
        refine wpAnyH_take (i := 5) (v := undef) rfl (by kernel_rfl) (by kernel_rfl) (by kernel_rfl) (fun _ _ _ h => h) (Or.inr ⟨by kernel_rfl, rfl⟩) s0 ?_
        (try simp only [Act.put, List.getElem_toArray, List.getElem_cons_succ, List.getElem_cons_zero, List.setIfInBounds_toArray, List.set_cons_zero, List.set_cons_succ])
        refine wpAnyH_take (i := 6) (v := undef) rfl (by kernel_rfl) (by kernel_rfl) (by kernel_rfl) (fun _ _ _ h => h) (Or.inr ⟨by kernel_rfl, rfl⟩) s0 ?_
        (try simp only [Act.put, List.getElem_toArray, List.getElem_cons_succ, List.getElem_cons_zero, List.setIfInBounds_toArray, List.set_cons_zero, List.set_cons_succ])
        refine wpAnyH_take (i := 7) (v := undef) rfl (by kernel_rfl) (by kernel_rfl) (by kernel_rfl) (fun _ _ _ h => h) (Or.inr ⟨by kernel_rfl, rfl⟩) s0 ?_
        (try simp only [Act.put, List.getElem_toArray, List.getElem_cons_succ, List.getElem_cons_zero, List.setIfInBounds_toArray, List.set_cons_zero, List.set_cons_succ])
        refine wpAnyH_take (i := 8) (v := undef) rfl (by kernel_rfl) (by kernel_rfl) (by kernel_rfl) (fun _ _ _ h => h) (Or.inr ⟨by kernel_rfl, rfl⟩) s0 ?_
        (try simp only [Act.put, List.getElem_toArray, List.getElem_cons_succ, List.getElem_cons_zero, List.setIfInBounds_toArray, List.set_cons_zero, List.set_cons_succ])
        refine wpAnyH_take (i := 9) (v := undef) rfl (by kernel_rfl) (by kernel_rfl) (by kernel_rfl) (fun _ _ _ h => h) (Or.inr ⟨by kernel_rfl, rfl⟩) s0 ?_
        (try simp only [Act.put, List.getElem_toArray, List.getElem_cons_succ, List.getElem_cons_zero, List.setIfInBounds_toArray, List.set_cons_zero, List.set_cons_succ])
        refine wpAnyH_take (i := 10) (v := undef) rfl (by kernel_rfl) (by kernel_rfl) (by kernel_rfl) (fun _ _ _ h => h) (Or.inr ⟨by kernel_rfl, rfl⟩) s0 ?_
        (try simp only [Act.put, List.getElem_toArray, List.getElem_cons_succ, List.getElem_cons_zero, List.setIfInBounds_toArray, List.set_cons_zero, List.set_cons_succ])
        refine wpAnyH_take (i := 11) (v := undef) rfl (by kernel_rfl) (by kernel_rfl) (by kernel_rfl) (fun _ _ _ h => h) (Or.inr ⟨by kernel_rfl, rfl⟩) s0 ?_
        (try simp only [Act.put, List.getElem_toArray, List.getElem_cons_succ, List.getElem_cons_zero, List.setIfInBounds_toArray, List.set_cons_zero, List.set_cons_succ])
        refine wpAnyH_take (i := 12) (v := undef) rfl (by kernel_rfl) (by kernel_rfl) (by kernel_rfl) (fun _ _ _ h => h) (Or.inr ⟨by kernel_rfl, rfl⟩) s0 ?_
        (try simp only [Act.put, List.getElem_toArray, List.getElem_cons_succ, List.getElem_cons_zero, List.setIfInBounds_toArray, List.set_cons_zero, List.set_cons_succ])
        refine wpAnyH_take (i := 13) (v := .bool false) rfl (by kernel_rfl) (by kernel_rfl) (by kernel_rfl) (fun _ _ _ h => h) (Or.inl ⟨by kernel_rfl, fun w' h => by first | (go_simp; done) | (go_simp; rfl)⟩) s0 ?_
        (try simp only [Act.put, List.getElem_toArray, List.getElem_cons_succ, List.getElem_cons_zero, List.setIfInBounds_toArray, List.set_cons_zero, List.set_cons_succ])
        refine wpAnyH_take (i := 14) (v := .int .i64 (hi : Int)) rfl (by kernel_rfl) (by kernel_rfl) (by kernel_rfl) (fun _ _ _ h => h) (Or.inl ⟨by kernel_rfl, fun w' h => by first | (go_simp; done) | (go_simp; rfl)⟩) s0 ?_
        (try simp only [Act.put, List.getElem_toArray, List.getElem_cons_succ, List.getElem_cons_zero, List.setIfInBounds_toArray, List.set_cons_zero, List.set_cons_succ])
        refine wpAnyH_take (i := 15) (v := .bool false) rfl (by kernel_rfl) (by kernel_rfl) (by kernel_rfl) (fun _ _ _ h => h) (Or.inl ⟨by kernel_rfl, fun w' h => by first | (go_simp; done) | (go_simp; rfl)⟩) s0 ?_
        (try simp only [Act.put, List.getElem_toArray, List.getElem_cons_succ, List.getElem_cons_zero, List.setIfInBounds_toArray, List.set_cons_zero, List.set_cons_succ])
        refine wpAnyH_done (by kernel_rfl) ?_ _
        clear s0
        go_wp2
        go_ret2
        exact ⟨hi, false, m, rfl, HD.out.tck, by have := HI.out.2.2; omega, HI.out.2.1, HLO.out, HHI.out, by
          constructor
          · intro h; cases h
          · rintro ⟨x, h1, _⟩
            have := (List.getElem?_eq_some_iff.1 h1).1
            have := HRD.out.len
            have := HHN.out
            omega⟩
end Go.Proofs.Ythjhbhgfckaklaa.P
end
