/-
  Texts of the proof, put together.
-/
import Derived.Test.YthjhbhgfckaklaaM5
section
namespace Go.Proofs.Ythjhbhgfckaklaa.P
open Go.RowKit Go.Proofs.YthjhbhgfckaklaaW.PrintWords Go.Proofs.YthjhbhgfckaklaaW.PrintLast Go.Proofs.YthjhbhgfckaklaaW.PrintMore
set_option linter.unusedVariables false
set_option linter.unusedSimpArgs false
/-- Where a prefix stands among entries, or would, and whether it is there. -/
structure Found (l : List En) (p : Pf) (i : Nat) (b : Bool) : Prop where
  le : i ≤ l.length
  lo : ∀ (j : Nat) (x : En), j < i → l[j]? = some x → cmpP x.p p < 0
  hi : ∀ (j : Nat) (x : En), i ≤ j → l[j]? = some x → 0 ≤ cmpP x.p p
  is : b = true ↔ ∃ x, l[i]? = some x ∧ cmpP x.p p = 0
/-- What stands ahead of a prefix stands ahead of all that does not. -/
abbrev Mono (l : List En) (p : Pf) : Prop := ∀ (i j : Nat) (x y : En), i ≤ j → l[i]? = some x → l[j]? = some y → cmpP y.p p < 0 → cmpP x.p p < 0
theorem rd_below {w w' : World} {ty : TypeId} {A : Option Addr} {n cap G : Nat} {l : List En} (h : Rd w ty A n cap G l) (hb : Below w.heap.size w w') : Rd w' ty A n cap G l :=
  ⟨h.len, h.idx, fun i e he => range_below (h.at_ i e he) hb⟩
theorem ticks_new {B sb so : Nat} {a b c : World} {k : Int} (hb : Below B a b) (h : Ticks sb so b c k) (hB : B ≤ sb) (hs : B ≤ a.heap.size) : Below B a c :=
  ⟨h.os.trans hb.os, h.tape.trans hb.tape, h.output.trans hb.output, Nat.le_trans hb.size h.size, fun x hx => (h.block x (Nat.lt_of_lt_of_le (Nat.lt_of_lt_of_le hx hs) hb.size) (by omega)).trans (hb.block x hx)⟩
set_option maxHeartbeats 4000000 in
set_option maxRecDepth 100000 in
theorem table_search (A : Option Addr) (n cap G : Nat) (l : List En) (hl : okE l) (p : Pf) (hp : p.a.ok) (sb so : Nat) (t : TypeId) (cs : Array Value) (k : Int) (w : World)
    (hrd : Rd w 50 A n cap G l) (hs : w.heap[sb]? = some (.cells cs t (0, 0))) (hk : cs[so]? = some (.int .i64 k)) (hGs : G ≠ sb) (hn : n ≤ 1000000) (hk0 : 0 ≤ k) (hk1 : k ≤ 1000000000) (hmono : Mono l p) :
    Calls Try.prog 46 #[.slice A n cap, .agg (eP p), .pointer (some ⟨sb, so, none⟩)] w fun r w' => ∃ (i : Nat) (b : Bool) (m : Nat), r = .returned (.tuple #[.int .i64 (i : Int), .bool b]) ∧ Ticks sb so w w' (k + (m : Int)) ∧ m ≤ blen n + 1 ∧ Found l p i b := by
  have HB := Aside0.mk (Below.refl w.heap.size w)
  have HP := Aside0.mk hp
  have HL := Aside0.mk hl
  have HRD := Aside0.mk hrd
  have HSB := Aside0.mk hs
  have HS := Aside0.mk hs
  have HKK := Aside0.mk hk
  have HNN := Aside0.mk (show G ≠ sb ∧ n ≤ 1000000 ∧ 0 ≤ k ∧ k ≤ 1000000000 from ⟨hGs, hn, hk0, hk1⟩)
  have HMO := Aside0.mk hmono
  clear hp hl hrd hs hk hGs hn hk0 hk1 hmono
  go_enter Try.func46, Try.ntmps46
  go_wp2_with (first
    | ((with_reducible refine gate_dst (N := 4) rfl ?_); refine box_event ?hg (N := 4) ?hd (cs := eP p) (t := 39) ?hr ?_; (case hd => rfl); (case hg => rfl); (case hr => first | (go_simp; done) | (go_simp; rfl)); intro g4 hg w1 hbox hb; have HX := Aside0.mk hbox; replace HSB := Aside0.mk (blk_below (blk_later HSB.out) hb); replace HB := Aside0.mk (below_step (bel_later HB.out) hb); clear hb hg hbox)
    | ((with_reducible refine gate_dst (N := 5) rfl ?_); refine box_event ?hg (N := 5) ?hd (cs := #[.pointer (some ⟨sb, so, none⟩)]) (t := 96) ?hr ?_; (case hd => rfl); (case hg => rfl); (case hr => first | (go_simp; done) | (go_simp; rfl)); intro g5 hg w2 hbox hb; have HY := Aside0.mk hbox; have HN5 := Aside0.mk (show g5 ≠ sb by rw [hg]; exact Ne.symm (Nat.ne_of_lt (blk_lt (blk_later HSB.out)))); replace HX := Aside0.mk (blk_below (blk_later HX.out) hb); replace HSB := Aside0.mk (blk_below (blk_later HSB.out) hb); replace HB := Aside0.mk (below_step (bel_later HB.out) hb); clear hb hg hbox)
    | ((with_reducible refine gate_dst (N := 9) rfl ?_); refine wpList_load_row rfl 39 (.tmp 4) rfl g4 rfl 39 (eP p) (0, 0) _ HX.out Try.underlying39 rfl (infoEP HP.out) ?_)
    | (go_at_call 68; refine (bin_search A n cap G l HL.out p HP.out g5 sb so 96 t cs k _ (rd_below HRD.out HB.out) HY.out HSB.out HKK.out HN5.out HNN.out.1 HNN.out.2.1 HNN.out.2.2.1 HNN.out.2.2.2 HMO.out).mono ?_; rintro r w3 ⟨i, b, m, rfl, h1, h2, h3, h4, h5, h6⟩; have HT := Aside0.mk (below_ticks HS.out HB.out h1); have HF := Aside0.mk (show m ≤ blen n + 1 ∧ Found l p i b from ⟨h2, by rw [HRD.out.len]; exact h3, h4, h5, h6⟩); clear h1 h2 h3 h4 h5 h6))
  go_ret2
  exact ⟨i, b, m, rfl, HT.out, HF.out.1, HF.out.2⟩
set_option maxHeartbeats 4000000 in
set_option maxRecDepth 100000 in
theorem table_at (T : Nat) (st : Int) (A : Option Addr) (n cap G : Nat) (l : List En) (hl : okE l) (p : Pf) (hp : p.a.ok) (w : World)
    (hT : w.heap[T]? = some (.cells #[.slice A n cap, .int .i64 st] 90 (0, 0))) (hrd : Rd w 50 A n cap G l) (hG : G < w.heap.size) (hn : n ≤ 1000000) (hmono : Mono l p) :
    Calls Try.prog 49 #[.pointer (some ⟨T, 0, none⟩), .agg (eP p)] w fun r w' => ∃ (i : Nat) (b : Bool), r = .returned (.tuple #[.int .i64 (i : Int), .bool b]) ∧ Below w.heap.size w w' ∧ Found l p i b := by
  have HB := Aside0.mk (Below.refl w.heap.size w)
  have HP := Aside0.mk hp
  have HL := Aside0.mk hl
  have HRD := Aside0.mk hrd
  have HT0 := Aside0.mk hT
  have HT := Aside0.mk hT
  have HNN := Aside0.mk (show G < w.heap.size ∧ n ≤ 1000000 from ⟨hG, hn⟩)
  have HMO := Aside0.mk hmono
  clear hp hl hrd hT hG hn hmono
  go_enter Try.func49, Try.ntmps49
  go_wp2_with (first
    | ((with_reducible refine gate_dst (N := 3) rfl ?_); refine box_event ?hg (N := 3) ?hd (cs := eP p) (t := 39) ?hr ?_; (case hd => rfl); (case hg => rfl); (case hr => first | (go_simp; done) | (go_simp; rfl)); intro g3 hg w1 hbox hb; have HX := Aside0.mk hbox; replace HT := Aside0.mk (blk_below (blk_later HT.out) hb); replace HB := Aside0.mk (below_step (bel_later HB.out) hb); clear hb hg hbox)
    | ((with_reducible refine gate_dst (N := 6) rfl ?_); refine box_event ?hg (N := 6) ?hd (cs := #[.int .i64 0]) (t := 3) ?hr ?_; (case hd => rfl); (case hg => rfl); (case hr => first | (go_simp; done) | (go_simp; rfl)); intro g6 hg w2 hbox hb; have HY := Aside0.mk hbox; have HN3 := Aside0.mk (show g3 ≠ g6 by rw [hg]; exact Nat.ne_of_lt (blk_lt (blk_later HX.out))); have HG6 := Aside0.mk (show w.heap.size ≤ g6 by rw [hg]; exact below_size (bel_later HB.out)); replace HX := Aside0.mk (blk_below (blk_later HX.out) hb); replace HT := Aside0.mk (blk_below (blk_later HT.out) hb); replace HB := Aside0.mk (below_step (bel_later HB.out) hb); have h0 : w2.cell? ⟨T, 0, none⟩ = some (.slice A n cap) := blk_cell HT.out 0; clear hb hg hbox)
    | ((with_reducible refine gate_dst (N := 11) rfl ?_); refine wpList_load_row rfl 39 (.tmp 3) rfl g3 rfl 39 (eP p) (0, 0) _ HX.out Try.underlying39 rfl (infoEP HP.out) ?_))
  (try simp only [Act.put, List.getElem_toArray, List.getElem_cons_succ, List.getElem_cons_zero, List.setIfInBounds_toArray, List.set_cons_zero, List.set_cons_succ])
  obtain ⟨S, hS⟩ : ∃ S : World → Prop, S = fun w' => w'.heap[T]? = some (.cells #[.slice A n cap, .int .i64 st] 90 (0, 0)) ∧ w'.heap[g3]? = some (.cells (eP p) 39 (0, 0)) ∧ Below w.heap.size w w' := ⟨_, rfl⟩
  have HSx := Aside0.mk (show ∀ x : World, S x → x.heap[T]? = some (.cells #[.slice A n cap, .int .i64 st] 90 (0, 0)) ∧ x.heap[g3]? = some (.cells (eP p) 39 (0, 0)) ∧ Below w.heap.size w x by
    intro b h
    rw [hS] at h
    exact h)
  have s0 : S w2.drew := by rw [hS]; exact ⟨blk_later HT.out, blk_later HX.out, bel_later HB.out⟩
  have HSy := Aside0.mk (show ∀ x : World, x.heap[T]? = some (.cells #[.slice A n cap, .int .i64 st] 90 (0, 0)) → x.heap[g3]? = some (.cells (eP p) 39 (0, 0)) → Below w.heap.size w x → S x by intro x h1 h2 h3; rw [hS]; exact ⟨h1, h2, h3⟩)
  clear hS h0
  refine wp_region_held_drew (S := S) (by kernel_rfl) s0 (fun _ => ?_)
  refine wpAnyH_take (i := 0) (v := .pointer (some ⟨T, 0, none⟩)) rfl (by kernel_rfl) (by kernel_rfl) (by kernel_rfl) (fun _ _ _ h => h) (Or.inl ⟨by kernel_rfl, fun w' h => by first | (go_simp; done) | (go_simp; rfl)⟩) s0 ?_
  (try simp only [Act.put, List.getElem_toArray, List.getElem_cons_succ, List.getElem_cons_zero, List.setIfInBounds_toArray, List.set_cons_zero, List.set_cons_succ])
  refine wpAnyH_take (i := 1) (v := .pointer (some ⟨T, 0, none⟩)) rfl (by kernel_rfl) (by kernel_rfl) (by kernel_rfl) (fun _ _ _ h => h) (Or.inl ⟨by kernel_rfl, fun w' h => by first | (go_simp; done) | (go_simp; rfl)⟩) s0 ?_
  (try simp only [Act.put, List.getElem_toArray, List.getElem_cons_succ, List.getElem_cons_zero, List.setIfInBounds_toArray, List.set_cons_zero, List.set_cons_succ])
  refine wpAnyH_take (i := 2) (v := .pointer (some ⟨T, 0, none⟩)) rfl (by kernel_rfl) (by kernel_rfl) (by kernel_rfl) (fun _ _ _ h => h) (Or.inl ⟨by kernel_rfl, fun w' h => by first | (go_simp; done) | (go_simp; rfl)⟩) s0 ?_
  (try simp only [Act.put, List.getElem_toArray, List.getElem_cons_succ, List.getElem_cons_zero, List.setIfInBounds_toArray, List.set_cons_zero, List.set_cons_succ])
  refine wpAnyH_take (i := 3) (v := .slice A n cap) rfl (by kernel_rfl) (by kernel_rfl) (by kernel_rfl) (fun _ _ _ h => h) (Or.inl ⟨by kernel_rfl, fun w' h => by have hf := blk_cell (HSx.out w' h).1 0; first | (go_simp; done) | (go_simp; rfl)⟩) s0 ?_
  (try simp only [Act.put, List.getElem_toArray, List.getElem_cons_succ, List.getElem_cons_zero, List.setIfInBounds_toArray, List.set_cons_zero, List.set_cons_succ])
  refine wpAnyH_take (i := 4) (v := .agg (eP p)) rfl ?q4b ?q4c ?q4d (fun _ _ _ h => h) ?q4e s0 ?q4f
  case q4b => kernel_rfl
  case q4c => kernel_rfl
  case q4d => kernel_rfl
  case q4e => exact yields_row (by kernel_rfl) 39 (.tmp 3) rfl g3 rfl 39 (eP p) (0, 0) _ (fun w' h => (HSx.out w' h).2.1) Try.underlying39 rfl (infoEP HP.out)
  (try simp only [Act.put, List.getElem_toArray, List.getElem_cons_succ, List.getElem_cons_zero, List.setIfInBounds_toArray, List.set_cons_zero, List.set_cons_succ])
  have HS2 := Aside0.mk (HSx.out _ s0)
  have HY2 := Aside0.mk (blk_later (b := w2.drew) HY.out)
  have HN := Aside0.mk (show T ≠ g6 ∧ g3 ≠ g6 ∧ G ≠ g6 from ⟨fun e => by have := (Array.getElem?_eq_some_iff.1 HT0.out).1; have := HG6.out; omega, HN3.out, fun e => by have := HNN.out.1; have := HG6.out; omega⟩)
  refine held_step (i := 5) (by kernel_rfl) rfl (by kernel_rfl) (fun K hK => ?_)
  go_simp
  refine (table_search A n cap G l HL.out p HP.out g6 0 3 #[.int .i64 0] 0 w2.drew (rd_below HRD.out HS2.out.2.2) HY2.out rfl HN.out.2.2 HNN.out.2 (by decide) (by decide) HMO.out).mono ?_
  rintro r w3 ⟨i, b, m, rfl, h1, _, h3⟩
  have HF := Aside0.mk h3
  have s1 : S w3 := HSy.out _ (ticks_blk h1 HS2.out.1 HN.out.1) (ticks_blk h1 HS2.out.2.1 HN.out.2.1) (ticks_new HS2.out.2.2 h1 HG6.out (Nat.le_refl _))
  clear h1 h3
  refine hK.out _ _ s1 ?_
  clear hK K
  (try simp only [Act.put, List.getElem_toArray, List.getElem_cons_succ, List.getElem_cons_zero, List.setIfInBounds_toArray, List.set_cons_zero, List.set_cons_succ])
  refine wpAnyH_take (i := 6) (v := .int .i64 (i : Int)) rfl (by kernel_rfl) (by kernel_rfl) (by kernel_rfl) (fun _ _ _ h => h) (Or.inl ⟨by kernel_rfl, fun w' h => by first | (go_simp; done) | (go_simp; rfl)⟩) s1 ?_
  (try simp only [Act.put, List.getElem_toArray, List.getElem_cons_succ, List.getElem_cons_zero, List.setIfInBounds_toArray, List.set_cons_zero, List.set_cons_succ])
  refine wpAnyH_take (i := 7) (v := .bool b) rfl (by kernel_rfl) (by kernel_rfl) (by kernel_rfl) (fun _ _ _ h => h) (Or.inl ⟨by kernel_rfl, fun w' h => by first | (go_simp; done) | (go_simp; rfl)⟩) s1 ?_
  (try simp only [Act.put, List.getElem_toArray, List.getElem_cons_succ, List.getElem_cons_zero, List.setIfInBounds_toArray, List.set_cons_zero, List.set_cons_succ])
  refine wpAnyH_take (i := 8) (v := .int .i64 (i : Int)) rfl (by kernel_rfl) (by kernel_rfl) (by kernel_rfl) (fun _ _ _ h => h) (Or.inl ⟨by kernel_rfl, fun w' h => by first | (go_simp; done) | (go_simp; rfl)⟩) s1 ?_
  (try simp only [Act.put, List.getElem_toArray, List.getElem_cons_succ, List.getElem_cons_zero, List.setIfInBounds_toArray, List.set_cons_zero, List.set_cons_succ])
  refine wpAnyH_take (i := 9) (v := .bool b) rfl (by kernel_rfl) (by kernel_rfl) (by kernel_rfl) (fun _ _ _ h => h) (Or.inl ⟨by kernel_rfl, fun w' h => by first | (go_simp; done) | (go_simp; rfl)⟩) s1 ?_
  (try simp only [Act.put, List.getElem_toArray, List.getElem_cons_succ, List.getElem_cons_zero, List.setIfInBounds_toArray, List.set_cons_zero, List.set_cons_succ])
  refine wpAnyH_done (by kernel_rfl) ?_ _
  have HBF := Aside0.mk (HSx.out _ s1).2.2
  clear s0 s1
  go_wp2
  go_ret2
  exact ⟨i, b, rfl, HBF.out, HF.out⟩
end Go.Proofs.Ythjhbhgfckaklaa.P
end
section
namespace Go.Proofs.Ythjhbhgfckaklaa.P
open Go.RowKit Go.Proofs.YthjhbhgfckaklaaW.PrintWords Go.Proofs.YthjhbhgfckaklaaW.PrintLast Go.Proofs.YthjhbhgfckaklaaW.PrintMore
set_option linter.unusedVariables false
set_option linter.unusedSimpArgs false
set_option maxRecDepth 100000 in
theorem idx_en (g n cap i : Nat) (w : World) (hi : i < n) : (Instr.indexAt 50 (.slice (some ⟨g, 0, none⟩) n cap) (.int .i64 (i : Int))).run Try.prog w = .ok (.pointer (some ⟨g, i * 19, none⟩)) w := by
  have h0 : (0 : Int) ≤ (i : Int) := Int.natCast_nonneg i
  have h1 : (i : Int) < (n : Int) := by omega
  go_simp
set_option maxRecDepth 100000 in
theorem idx_er (g n cap i : Nat) (w : World) (hi : i < n) : (Instr.indexAt 51 (.slice (some ⟨g, 0, none⟩) n cap) (.int .i64 (i : Int))).run Try.prog w = .ok (.pointer (some ⟨g, i * 19, none⟩)) w := by
  have h0 : (0 : Int) ≤ (i : Int) := Int.natCast_nonneg i
  have h1 : (i : Int) < (n : Int) := by omega
  go_simp
theorem rd_of_row {w : World} {base : Nat} {te : TypeId} {v : Value} {l : List En} (h : w.ownsRow base te 19 v l.length (flE l)) (hl : okE l) (ty : TypeId)
    (hidx : ∀ (g n cap i : Nat) (w : World), i < n → (Instr.indexAt ty (.slice (some ⟨g, 0, none⟩) n cap) (.int .i64 (i : Int))).run Try.prog w = .ok (.pointer (some ⟨g, i * 19, none⟩)) w) (G0 : Nat) :
    ∃ (A : Option Addr) (cap G : Nat), v = .slice A l.length cap ∧ Rd w ty A l.length cap G l ∧ ((G = G0 ∧ l = []) ∨ ∃ cur, w.heap[G]? = some (.cells cur te (0, 0)) ∧ A = some ⟨G, 0, none⟩ ∧ base ≤ G) := by
  rcases h.2 with ⟨hv, hn⟩ | ⟨g, cap, cur, hv, hb, hg, hc, hm, hs, ht⟩
  · have hl0 : l = [] := List.length_eq_zero_iff.1 hn
    subst hl0
    exact ⟨none, 0, G0, hv, ⟨rfl, fun w i hi => absurd hi (Nat.not_lt_zero _), fun i e he => by simp at he⟩, .inl ⟨rfl, rfl⟩⟩
  · refine ⟨some ⟨g, 0, none⟩, cap, g, hv, ⟨rfl, fun w i hi => hidx g l.length cap i w hi, fun i e he => ?_⟩, .inr ⟨cur, hg, rfl, hb⟩⟩
    exact range_of_block hg ht (fun j u hj => flE_get hl he hj)
/-- A table's state: its row, in order, and how often it was searched. -/
structure Tb (w : World) (T : Nat) (base : Nat) (st : Int) (v : Value) (l : List En) : Prop where
  blk : w.heap[T]? = some (.cells #[v, .int .i64 st] 90 (0, 0))
  row : w.ownsRow base 42 19 v l.length (flE l)
  ok : okE l
abbrev Sorted (l : List En) : Prop := l.Pairwise fun x y => cmpP x.p y.p < 0
theorem tb_below {w w' : World} {T base : Nat} {st : Int} {v : Value} {l : List En} (h : Tb w T base st v l) (hb : Below w.heap.size w w') : Tb w' T base st v l :=
  ⟨blk_below h.blk hb, h.row.kept (row := none) ⟨hb.os, hb.tape, hb.output, hb.size, fun k hk _ => hb.block k hk⟩ (by cases v.ownBlock <;> simp), h.ok⟩
end Go.Proofs.Ythjhbhgfckaklaa.P
end
section
namespace Go.Proofs.Ythjhbhgfckaklaa.P
open Go.RowKit Go.Proofs.YthjhbhgfckaklaaW.PrintWords Go.Proofs.YthjhbhgfckaklaaW.PrintLast Go.Proofs.YthjhbhgfckaklaaW.PrintMore
set_option linter.unusedVariables false
set_option linter.unusedSimpArgs false
theorem lexC_self : ∀ x : List Int, lexC x x = 0
  | [] => rfl
  | a :: x => by rw [lexC, if_neg (by omega), if_neg (by omega)]; exact lexC_self x
theorem lexC_eq : ∀ x y : List Int, x.length = y.length → lexC x y = 0 → x = y
  | [], [], _, _ => rfl
  | a :: x, b :: y, hl, h => by
    rw [lexC] at h
    split at h
    · cases h
    · split at h
      · cases h
      · have := lexC_eq x y (by simpa using hl) h
        rw [this, show a = b by omega]
theorem lexC_swap : ∀ x y : List Int, lexC y x = - lexC x y
  | [], [] => rfl
  | [], _ :: _ => rfl
  | _ :: _, [] => rfl
  | a :: x, b :: y => by
    have ih := lexC_swap x y
    have e1 : lexC (b :: y) (a :: x) = if b < a then -1 else if a < b then 1 else lexC y x := rfl
    have e2 : lexC (a :: x) (b :: y) = if a < b then -1 else if b < a then 1 else lexC x y := rfl
    rw [e1, e2, ih]
    by_cases h1 : a < b
    · rw [if_pos h1, if_neg (show ¬ b < a by omega), if_pos h1] <;> rfl
    · by_cases h2 : b < a
      · rw [if_pos h2, if_neg h1, if_pos h2] <;> rfl
      · rw [if_neg h2, if_neg h1, if_neg h1, if_neg h2]
theorem lexC_cons (a b : Int) (x y : List Int) : lexC (a :: x) (b :: y) = orI (cmpI a b) (lexC x y) := by
  have e2 : lexC (a :: x) (b :: y) = if a < b then -1 else if b < a then 1 else lexC x y := rfl
  rw [e2]
  unfold orI cmpI
  by_cases h1 : a < b
  · rw [if_pos h1, if_pos h1, if_pos (by decide)]
  · by_cases h2 : b < a
    · rw [if_neg h1, if_pos h2, if_neg h1, if_pos h2, if_pos (by decide)]
    · rw [if_neg h1, if_neg h2, if_neg h1, if_neg h2, if_neg (by decide)]
theorem lexC_trans : ∀ x y z : List Int, x.length = y.length → y.length = z.length → lexC x y < 0 → lexC y z < 0 → lexC x z < 0
  | [], [], _, _, _, h, _ => absurd h (by decide)
  | a :: x, b :: y, c :: z, h1, h2, h3, h4 => by
    have ih := lexC_trans x y z (by simpa using h1) (by simpa using h2)
    rw [lexC] at h3 h4 ⊢
    by_cases k1 : a < b
    · by_cases k2 : b < c
      · rw [if_pos (show a < c by omega)]; decide
      · by_cases k3 : c < b
        · rw [if_neg k2, if_pos k3] at h4; exact absurd h4 (by decide)
        · rw [if_pos (show a < c by omega)]; decide
    · by_cases k2 : b < a
      · rw [if_neg k1, if_pos k2] at h3; exact absurd h3 (by decide)
      · rw [if_neg k1, if_neg k2] at h3
        by_cases k3 : b < c
        · rw [if_pos (show a < c by omega)]; decide
        · by_cases k4 : c < b
          · rw [if_neg k3, if_pos k4] at h4; exact absurd h4 (by decide)
          · rw [if_neg k3, if_neg k4] at h4
            rw [if_neg (show ¬ a < c by omega), if_neg (show ¬ c < a by omega)]
            exact ih h3 h4
theorem lexC_app : ∀ (x y : List Int) (m n : Int), x.length = y.length → lexC (x ++ [m]) (y ++ [n]) = orI (lexC x y) (cmpI m n)
  | [], [], m, n, _ => by
    show (if m < n then (-1 : Int) else if n < m then 1 else 0) = _
    rfl
  | a :: x, b :: y, m, n, h => by
    have ih := lexC_app x y m n (by simpa using h)
    rw [List.cons_append, List.cons_append, lexC, lexC, ih]
    by_cases h1 : a < b
    · rw [if_pos h1, if_pos h1]; rfl
    · rw [if_neg h1, if_neg h1]
      by_cases h2 : b < a
      · rw [if_pos h2, if_pos h2]; rfl
      · rw [if_neg h2, if_neg h2]
def keyP (p : Pf) : List Int := (p.a.fam :: p.a.bs) ++ [p.n]
theorem keyP_len {p : Pf} (h : p.a.ok) : (keyP p).length = 18 := by unfold keyP; simp [h.1]
theorem cmpP_lex {p q : Pf} (hp : p.a.ok) (hq : q.a.ok) : cmpP p q = lexC (keyP p) (keyP q) := by
  unfold keyP
  rw [lexC_app _ _ _ _ (by simp [hp.1, hq.1]), cmpP_or, cmpA_or hp hq, lexC_cons]
theorem keyP_inj {p q : Pf} (h : keyP p = keyP q) : p = q := by
  obtain ⟨⟨f, b⟩, n⟩ := p
  obtain ⟨⟨g, c⟩, m⟩ := q
  unfold keyP at h
  have h1 := List.append_inj_left' h rfl
  have h2 := List.append_inj_right' h rfl
  simp only [List.cons.injEq] at h1 h2
  obtain ⟨h3, h4⟩ := h1
  obtain ⟨h5, _⟩ := h2
  subst h3; subst h4; subst h5
  rfl
theorem cmpP_zero {p q : Pf} (hp : p.a.ok) (hq : q.a.ok) : cmpP p q = 0 ↔ p = q := by
  rw [cmpP_lex hp hq]
  constructor
  · intro h
    exact keyP_inj (lexC_eq _ _ (by rw [keyP_len hp, keyP_len hq]) h)
  · rintro rfl
    exact lexC_self _
theorem cmpP_swap {p q : Pf} (hp : p.a.ok) (hq : q.a.ok) : cmpP q p = - cmpP p q := by rw [cmpP_lex hp hq, cmpP_lex hq hp, lexC_swap]
theorem cmpP_trans {p q r : Pf} (hp : p.a.ok) (hq : q.a.ok) (hr : r.a.ok) (h1 : cmpP p q < 0) (h2 : cmpP q r < 0) : cmpP p r < 0 := by
  rw [cmpP_lex hp hq] at h1
  rw [cmpP_lex hq hr] at h2
  rw [cmpP_lex hp hr]
  exact lexC_trans _ _ _ (by rw [keyP_len hp, keyP_len hq]) (by rw [keyP_len hq, keyP_len hr]) h1 h2
theorem mono_sorted {l : List En} (hl : okE l) (hs : Sorted l) {p : Pf} (hp : p.a.ok) : Mono l p := by
  intro i j x y hij hx hy h
  by_cases he : i = j
  · subst he
    rw [hx] at hy
    cases hy
    exact h
  · obtain ⟨h1, h2⟩ := List.getElem?_eq_some_iff.1 hx
    obtain ⟨h3, h4⟩ := List.getElem?_eq_some_iff.1 hy
    have := List.pairwise_iff_getElem.1 hs i j h1 h3 (by omega)
    rw [h2, h4] at this
    exact cmpP_trans (hl x (List.mem_of_getElem? hx)) (hl y (List.mem_of_getElem? hy)) hp this h
/-! ### entries told apart by a prefix -/
def ltE (l : List En) (p : Pf) : List En := l.filter fun e => decide (cmpP e.p p < 0)
def gtE (l : List En) (p : Pf) : List En := l.filter fun e => decide (0 < cmpP e.p p)
def setE (l : List En) (p : Pf) (v : Int) : List En := ltE l p ++ ⟨p, v⟩ :: gtE l p
def dropE (l : List En) (p : Pf) : List En := l.filter fun e => !decide (e.p = p)
def getE (l : List En) (p : Pf) : Option En := l.find? fun e => decide (e.p = p)
def hasE (l : List En) (p : Pf) : Bool := l.any fun e => decide (e.p = p)
theorem ok_setE {l : List En} (hl : okE l) {p : Pf} (hp : p.a.ok) (v : Int) : okE (setE l p v) := by
  intro e he
  rcases List.mem_append.1 he with h | h
  · exact hl e ((List.mem_filter.1 h).1)
  · rcases List.mem_cons.1 h with rfl | h
    · exact hp
    · exact hl e ((List.mem_filter.1 h).1)
theorem ok_dropE {l : List En} (hl : okE l) (p : Pf) : okE (dropE l p) := fun e he => hl e (List.mem_filter.1 he).1
theorem sorted_dropE {l : List En} (hs : Sorted l) (p : Pf) : Sorted (dropE l p) := hs.sublist List.filter_sublist
theorem sorted_setE {l : List En} (hl : okE l) (hs : Sorted l) {p : Pf} (hp : p.a.ok) (v : Int) : Sorted (setE l p v) := by
  unfold setE
  refine List.pairwise_append.2 ⟨hs.sublist List.filter_sublist, List.pairwise_cons.2 ⟨fun e he => ?_, hs.sublist List.filter_sublist⟩, fun x hx y hy => ?_⟩
  · obtain ⟨h1, h2⟩ := List.mem_filter.1 he
    have h3 : 0 < cmpP e.p p := of_decide_eq_true h2
    show cmpP p e.p < 0
    rw [cmpP_swap (hl e h1) hp]
    omega
  · obtain ⟨h1, h2⟩ := List.mem_filter.1 hx
    have h3 : cmpP x.p p < 0 := of_decide_eq_true h2
    rcases List.mem_cons.1 hy with rfl | hy
    · exact h3
    · obtain ⟨h4, h5⟩ := List.mem_filter.1 hy
      have h6 : 0 < cmpP y.p p := of_decide_eq_true h5
      exact cmpP_trans (hl x h1) hp (hl y h4) h3 (by rw [cmpP_swap (hl y h4) hp]; omega)
/-- What a search has found parts the entries. -/
theorem found_lt {l : List En} {p : Pf} {i : Nat} {b : Bool} (h : Found l p i b) : ltE l p = l.take i := by
  have h1 : ltE (l.take i) p = l.take i := by
    unfold ltE
    rw [List.filter_eq_self]
    intro e he
    obtain ⟨j, hj, rfl⟩ := List.getElem_of_mem he
    rw [List.getElem_take]
    have hji : j < i := by rw [List.length_take] at hj; omega
    exact decide_eq_true (h.lo j _ hji (List.getElem?_eq_getElem (by rw [List.length_take] at hj; omega)))
  have h2 : ltE (l.drop i) p = [] := by
    unfold ltE
    rw [List.filter_eq_nil_iff]
    intro e he
    obtain ⟨j, hj, rfl⟩ := List.getElem_of_mem he
    rw [List.getElem_drop]
    have := h.hi (i + j) _ (Nat.le_add_right _ _) (List.getElem?_eq_getElem (by rw [List.length_drop] at hj; omega))
    simp only [decide_eq_true_eq]
    omega
  conv => lhs; rw [← List.take_append_drop i l]
  unfold ltE at h1 h2 ⊢
  rw [List.filter_append, h1, h2, List.append_nil]
theorem tail_gt {l : List En} (hl : okE l) (hs : Sorted l) {p : Pf} (hp : p.a.ok) {i : Nat} {x : En} (hx : l[i]? = some x) (h0 : 0 ≤ cmpP x.p p) : ∀ e ∈ l.drop (i + 1), 0 < cmpP e.p p := by
  intro e he
  obtain ⟨j, hj, rfl⟩ := List.getElem_of_mem he
  rw [List.getElem_drop]
  obtain ⟨h1, h2⟩ := List.getElem?_eq_some_iff.1 hx
  have hj2 : i + 1 + j < l.length := by rw [List.length_drop] at hj; omega
  have h3 := List.pairwise_iff_getElem.1 hs i (i + 1 + j) h1 hj2 (by omega)
  rw [h2] at h3
  have ox := hl x (List.mem_of_getElem? hx)
  have oe := hl _ (List.getElem_mem hj2)
  by_cases h4 : 0 < cmpP (l[i + 1 + j]).p p
  · exact h4
  · by_cases h5 : cmpP (l[i + 1 + j]).p p = 0
    · rw [(cmpP_zero oe hp).1 h5] at h3
      omega
    · have := cmpP_trans ox oe hp h3 (by omega)
      omega
theorem found_yes {l : List En} (hl : okE l) (hs : Sorted l) {p : Pf} (hp : p.a.ok) {i : Nat} (h : Found l p i true) : ∃ x, l[i]? = some x ∧ x.p = p ∧ ltE l p = l.take i ∧ gtE l p = l.drop (i + 1) ∧ dropE l p = l.take i ++ l.drop (i + 1) ∧ getE l p = some x ∧ hasE l p = true := by
  obtain ⟨x, hx, h0⟩ := h.is.1 rfl
  have ox := hl x (List.mem_of_getElem? hx)
  have hxp := (cmpP_zero ox hp).1 h0
  obtain ⟨h1, h2⟩ := List.getElem?_eq_some_iff.1 hx
  have ht := tail_gt hl hs hp hx (by omega)
  have hsp : l = l.take i ++ x :: l.drop (i + 1) := by
    conv => lhs; rw [← List.take_append_drop i l, List.drop_eq_getElem_cons h1, h2]
  have hlo : ∀ e ∈ l.take i, cmpP e.p p < 0 := fun e he => by
    obtain ⟨j, hj, rfl⟩ := List.getElem_of_mem he
    rw [List.getElem_take]
    exact h.lo j _ (by rw [List.length_take] at hj; omega) (List.getElem?_eq_getElem (by rw [List.length_take] at hj; omega))
  have hno : ∀ e ∈ l, e.p = p → cmpP e.p p = 0 := fun e he h3 => (cmpP_zero (hl e he) hp).2 h3
  refine ⟨x, hx, hxp, found_lt h, ?_, ?_, ?_, ?_⟩
  · conv => lhs; rw [hsp]
    unfold gtE
    rw [List.filter_append, List.filter_eq_nil_iff.2 (fun e he => by have := hlo e he; simp only [decide_eq_true_eq]; omega), List.filter_cons_of_neg (by simp only [decide_eq_true_eq]; omega), List.nil_append, List.filter_eq_self]
    exact fun e he => decide_eq_true (ht e he)
  · conv => lhs; rw [hsp]
    unfold dropE
    rw [List.filter_append, List.filter_cons_of_neg (by simp [hxp])]
    congr 1
    · rw [List.filter_eq_self]
      intro e he
      have := hlo e he
      have h5 := hno e (List.mem_of_mem_take he)
      simp only [Bool.not_eq_true', decide_eq_false_iff_not]
      intro h6
      have := h5 h6
      omega
    · rw [List.filter_eq_self]
      intro e he
      have := ht e he
      have h5 := hno e (List.mem_of_mem_drop he)
      simp only [Bool.not_eq_true', decide_eq_false_iff_not]
      intro h6
      have := h5 h6
      omega
  · conv => lhs; rw [hsp]
    unfold getE
    rw [List.find?_append, List.find?_eq_none.2 (fun e he => by
      have := hlo e he
      have h5 := hno e (List.mem_of_mem_take he)
      simp only [decide_eq_true_eq]
      intro h6
      have := h5 h6
      omega)]
    simp [hxp]
  · unfold hasE
    rw [List.any_eq_true]
    exact ⟨x, List.mem_of_getElem? hx, decide_eq_true hxp⟩
theorem found_no {l : List En} (hl : okE l) (hs : Sorted l) {p : Pf} (hp : p.a.ok) {i : Nat} (h : Found l p i false) : ltE l p = l.take i ∧ gtE l p = l.drop i ∧ dropE l p = l ∧ getE l p = none ∧ hasE l p = false := by
  have hlo : ∀ e ∈ l.take i, cmpP e.p p < 0 := fun e he => by
    obtain ⟨j, hj, rfl⟩ := List.getElem_of_mem he
    rw [List.getElem_take]
    exact h.lo j _ (by rw [List.length_take] at hj; omega) (List.getElem?_eq_getElem (by rw [List.length_take] at hj; omega))
  have hhi : ∀ e ∈ l.drop i, 0 < cmpP e.p p := by
    by_cases hi : i < l.length
    · have hx : l[i]? = some l[i] := List.getElem?_eq_getElem hi
      have h0 := h.hi i _ (Nat.le_refl _) hx
      have hne : cmpP (l[i]).p p ≠ 0 := fun h1 => by
        have := h.is.2 ⟨l[i], hx, h1⟩
        cases this
      rw [List.drop_eq_getElem_cons hi]
      intro e he
      rcases List.mem_cons.1 he with rfl | he
      · omega
      · exact tail_gt hl hs hp hx h0 e he
    · rw [List.drop_of_length_le (by omega)]
      intro e he
      cases he
  have hno : ∀ e ∈ l, ¬ e.p = p := fun e he h3 => by
    have h4 := (cmpP_zero (hl e he) hp).2 h3
    rw [← List.take_append_drop i l] at he
    rcases List.mem_append.1 he with h5 | h5
    · have := hlo e h5; omega
    · have := hhi e h5; omega
  refine ⟨found_lt h, ?_, ?_, ?_, ?_⟩
  · conv => lhs; rw [← List.take_append_drop i l]
    unfold gtE
    rw [List.filter_append, List.filter_eq_nil_iff.2 (fun e he => by have := hlo e he; simp only [decide_eq_true_eq]; omega), List.nil_append, List.filter_eq_self]
    exact fun e he => decide_eq_true (hhi e he)
  · unfold dropE
    rw [List.filter_eq_self]
    intro e he
    simpa using hno e he
  · unfold getE
    rw [List.find?_eq_none]
    intro e he
    simpa using hno e he
  · unfold hasE
    rw [Bool.eq_false_iff]
    intro h1
    obtain ⟨e, he, h2⟩ := List.any_eq_true.1 h1
    exact hno e he (of_decide_eq_true h2)
/-- How many entries stand ahead of a prefix. -/
def idxE (l : List En) (p : Pf) : Nat := (ltE l p).length
theorem cut_at (q : En → Bool) : ∀ l : List En, l.Pairwise (fun x y => q y = true → q x = true) → ∃ i, i ≤ l.length ∧ l.filter q = l.take i ∧ (∀ e ∈ l.take i, q e = true) ∧ ∀ e ∈ l.drop i, q e = false
  | [], _ => ⟨0, Nat.le_refl _, rfl, fun e he => (by cases he), fun e he => (by cases he)⟩
  | x :: l, h => by
    obtain ⟨h1, h2⟩ := List.pairwise_cons.1 h
    cases hx : q x
    · refine ⟨0, Nat.zero_le _, ?_, fun e he => (by cases he), fun e he => ?_⟩
      · rw [List.take_zero, List.filter_eq_nil_iff]
        intro e he
        rcases List.mem_cons.1 he with rfl | he
        · rw [hx]; decide
        · intro h3
          have := h1 e he h3
          rw [hx] at this
          cases this
      · rcases List.mem_cons.1 he with rfl | he
        · exact hx
        · cases h3 : q e
          · rfl
          · have := h1 e he h3
            rw [hx] at this
            cases this
    · obtain ⟨i, h3, h4, h5, h6⟩ := cut_at q l h2
      refine ⟨i + 1, Nat.succ_le_succ h3, ?_, fun e he => ?_, h6⟩
      · rw [List.filter_cons_of_pos hx, h4, List.take_succ_cons]
      · rw [List.take_succ_cons] at he
        rcases List.mem_cons.1 he with rfl | he
        · exact hx
        · exact h5 e he
theorem found_pure {l : List En} (hl : okE l) (hs : Sorted l) {p : Pf} (hp : p.a.ok) : Found l p (idxE l p) (hasE l p) := by
  obtain ⟨i, h1, h2, h3, h4⟩ := cut_at (fun e => decide (cmpP e.p p < 0)) l (by
    rw [List.pairwise_iff_getElem]
    intro a b ha hb hab h
    have := mono_sorted hl hs hp a b l[a] l[b] (Nat.le_of_lt hab) (List.getElem?_eq_getElem ha) (List.getElem?_eq_getElem hb) (of_decide_eq_true h)
    exact decide_eq_true this)
  have hi : idxE l p = i := by
    unfold idxE ltE
    rw [h2, List.length_take, Nat.min_eq_left h1]
  rw [hi]
  have hlo : ∀ (j : Nat) (x : En), j < i → l[j]? = some x → cmpP x.p p < 0 := fun j x hj hx => of_decide_eq_true (h3 x (List.mem_iff_getElem?.2 ⟨j, by rw [List.getElem?_take, if_pos hj]; exact hx⟩))
  have hhi : ∀ (j : Nat) (x : En), i ≤ j → l[j]? = some x → 0 ≤ cmpP x.p p := fun j x hj hx => by
    have := of_decide_eq_false (h4 x (List.mem_iff_getElem?.2 ⟨j - i, by rw [List.getElem?_drop, show i + (j - i) = j by omega]; exact hx⟩))
    omega
  refine ⟨h1, hlo, hhi, ?_⟩
  constructor
  · intro h
    obtain ⟨e, he, h5⟩ := List.any_eq_true.1 h
    have h6 : cmpP e.p p = 0 := (cmpP_zero (hl e he) hp).2 (of_decide_eq_true h5)
    obtain ⟨j, hj⟩ := List.mem_iff_getElem?.1 he
    have hji : i ≤ j := by
      rcases Nat.lt_or_ge j i with h7 | h7
      · have := hlo j e h7 hj
        omega
      · exact h7
    obtain ⟨h8, h9⟩ := List.getElem?_eq_some_iff.1 hj
    have hil : i < l.length := by omega
    refine ⟨l[i], List.getElem?_eq_getElem hil, ?_⟩
    by_cases hij : i = j
    · subst hij
      rw [h9]
      exact h6
    · have h10 := List.pairwise_iff_getElem.1 hs i j hil h8 (by omega)
      rw [h9, (cmpP_zero (hl e he) hp).1 h6] at h10
      have := hhi i _ (Nat.le_refl _) (List.getElem?_eq_getElem hil)
      omega
  · rintro ⟨x, hx, h0⟩
    have hm := List.mem_of_getElem? hx
    unfold hasE
    rw [List.any_eq_true]
    exact ⟨x, hm, decide_eq_true ((cmpP_zero (hl x hm) hp).1 h0)⟩
theorem found_same {l : List En} {p : Pf} {i j : Nat} {b c : Bool} (h : Found l p i b) (k : Found l p j c) : i = j ∧ b = c := by
  have hij : i = j := by
    rcases Nat.lt_trichotomy i j with h1 | h1 | h1
    · have hl : i < l.length := by have := k.le; omega
      have a := k.lo i _ h1 (List.getElem?_eq_getElem hl)
      have b := h.hi i _ (Nat.le_refl _) (List.getElem?_eq_getElem hl)
      omega
    · exact h1
    · have hl : j < l.length := by have := h.le; omega
      have a := h.lo j _ h1 (List.getElem?_eq_getElem hl)
      have b := k.hi j _ (Nat.le_refl _) (List.getElem?_eq_getElem hl)
      omega
  subst hij
  exact ⟨rfl, by rw [Bool.eq_iff_iff, h.is, k.is]⟩
end Go.Proofs.Ythjhbhgfckaklaa.P
end
section
namespace Go.Proofs.Ythjhbhgfckaklaa.P
open Go.RowKit Go.Proofs.YthjhbhgfckaklaaW.PrintWords Go.Proofs.YthjhbhgfckaklaaW.PrintLast Go.Proofs.YthjhbhgfckaklaaW.PrintMore
set_option linter.unusedVariables false
set_option linter.unusedSimpArgs false
set_option maxHeartbeats 4000000 in
theorem tab_at (T base : Nat) (st : Int) (v : Value) (l : List En) (p : Pf) (hp : p.a.ok) (w : World) (ht : Tb w T base st v l) (hs : Sorted l) (hn : l.length ≤ 1000000) :
    Calls Try.prog 49 #[.pointer (some ⟨T, 0, none⟩), .agg (eP p)] w fun r w' => r = .returned (.tuple #[.int .i64 (idxE l p : Int), .bool (hasE l p)]) ∧ Below w.heap.size w w' := by
  obtain ⟨A, cap, G, rfl, hrd, hG⟩ := rd_of_row ht.row ht.ok 50 (fun g n cap i w hi => idx_en g n cap i w hi) T
  have hlt : G < w.heap.size := by
    rcases hG with ⟨rfl, _⟩ | ⟨cur, hg, _⟩
    · exact (Array.getElem?_eq_some_iff.1 ht.blk).1
    · exact (Array.getElem?_eq_some_iff.1 hg).1
  refine (table_at T st A l.length cap G l ht.ok p hp w ht.blk hrd hlt hn (mono_sorted ht.ok hs hp)).mono ?_
  rintro r w' ⟨i, b, rfl, h1, h2⟩
  obtain ⟨rfl, rfl⟩ := found_same h2 (found_pure ht.ok hs hp)
  exact ⟨rfl, h1⟩
def valE (l : List En) (p : Pf) : Int := ((getE l p).map (·.v)).getD 0
set_option maxHeartbeats 4000000 in
set_option maxRecDepth 100000 in
theorem table_Get (T base : Nat) (st : Int) (v : Value) (l : List En) (p : Pf) (hp : p.a.ok) (w : World) (ht : Tb w T base st v l) (hs : Sorted l) (hn : l.length ≤ 1000000) :
    Calls Try.prog 58 #[.pointer (some ⟨T, 0, none⟩), .agg (eP p)] w fun r w' => r = .returned (.tuple #[.int .i64 (valE l p), .bool (hasE l p)]) ∧ Below w.heap.size w w' := by
  have HB := Aside0.mk (Below.refl w.heap.size w)
  have HP := Aside0.mk hp
  have HS := Aside0.mk hs
  have HN := Aside0.mk hn
  have HT := Aside0.mk ht
  have HFO := Aside0.mk (found_pure ht.ok hs hp)
  have HOK := Aside0.mk ht.ok
  cases hb : hasE l p
  · have HR := Aside0.mk (show valE l p = 0 by
      have := found_no HOK.out HS.out HP.out (by have := HFO.out; rw [hb] at this; exact this)
      unfold valE
      rw [this.2.2.2.1]
      rfl)
    have HH := Aside0.mk hb
    clear hp hs hn ht hb
    go_enter Try.func58, Try.ntmps58
    go_wp2_with (first
      | ((with_reducible refine gate_dst (N := 3) rfl ?_); refine box_event ?hg (N := 3) ?hd (cs := eP p) (t := 39) ?hr ?_; (case hd => rfl); (case hg => rfl); (case hr => first | (go_simp; done) | (go_simp; rfl)); intro g3 hg w1 hbox hb; have HX := Aside0.mk hbox; replace HT := Aside0.mk (tb_below HT.out (below_step (bel_later (Below.refl _ _)) hb)); replace HB := Aside0.mk (below_step (bel_later HB.out) hb); clear hb hg hbox)
      | ((with_reducible refine gate_dst (N := 10) rfl ?_); refine wpList_load_row rfl 39 (.tmp 3) rfl g3 rfl 39 (eP p) (0, 0) _ HX.out Try.underlying39 rfl (infoEP HP.out) ?_)
      | (go_at_call 49; refine (tab_at T base st v l p HP.out _ HT.out HS.out HN.out).mono ?_; rintro r w2 ⟨rfl, hb⟩; rw [HH.out]; have HB2 := Aside0.mk (below_step HB.out hb); clear hb))
    go_ret2
    exact ⟨by rw [HR.out]; first | done | rfl, HB2.out⟩
  · obtain ⟨x, hx, hxp, _, _, _, hget, _⟩ := found_yes HOK.out HS.out HP.out (by have := HFO.out; rw [hb] at this; exact this)
    have HR := Aside0.mk (show valE l p = x.v by unfold valE; rw [hget]; rfl)
    have HXX := Aside0.mk hx
    have HH := Aside0.mk hb
    obtain ⟨A, cap, G, rfl, hrd, _⟩ := rd_of_row ht.row ht.ok 50 (fun g n cap i w hi => idx_en g n cap i w hi) T
    have HRD := Aside0.mk hrd
    have hidx := fun w => hrd.idx w (idxE l p) (List.getElem?_eq_some_iff.1 hx).1
    have HOX := Aside0.mk (ht.ok x (List.mem_of_getElem? hx))
    obtain ⟨i, hi⟩ : ∃ i, idxE l p = i := ⟨_, rfl⟩
    have HI := Aside0.mk hi
    rw [hi] at hidx HXX
    clear hi
    clear hp hs hn ht hb hx hrd hget hxp
    go_enter Try.func58, Try.ntmps58
    go_wp2_with (first
      | ((with_reducible refine gate_dst (N := 3) rfl ?_); refine box_event ?hg (N := 3) ?hd (cs := eP p) (t := 39) ?hr ?_; (case hd => rfl); (case hg => rfl); (case hr => first | (go_simp; done) | (go_simp; rfl)); intro g3 hg w1 hbox hb; have HX := Aside0.mk hbox; replace HT := Aside0.mk (tb_below HT.out (below_step (bel_later (Below.refl _ _)) hb)); replace HB := Aside0.mk (below_step (bel_later HB.out) hb); clear hb hg hbox)
      | ((with_reducible refine gate_dst (N := 10) rfl ?_); refine wpList_load_row rfl 39 (.tmp 3) rfl g3 rfl 39 (eP p) (0, 0) _ HX.out Try.underlying39 rfl (infoEP HP.out) ?_)
      | (go_at_call 49; refine (tab_at T base st _ l p HP.out _ HT.out HS.out HN.out).mono ?_; rintro r w2 ⟨rfl, hb⟩; rw [HH.out, HI.out]; have HT2 := Aside0.mk (tb_below HT.out hb); have HB2 := Aside0.mk (below_step HB.out hb); have h0 : w2.cell? ⟨T, 0, none⟩ = some (.slice A l.length cap) := blk_cell HT2.out.blk 0; have h1 := part_v HOX.out ((rd_below HRD.out HB2.out).at_ i x HXX.out); clear hb))
    go_ret2
    exact ⟨by rw [HR.out]; first | done | rfl, HB2.out⟩
end Go.Proofs.Ythjhbhgfckaklaa.P
end
