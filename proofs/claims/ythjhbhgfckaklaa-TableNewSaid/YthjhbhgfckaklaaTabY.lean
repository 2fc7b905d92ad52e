/-
  A table of entries is one of each set, one behind the other (the walk).
-/
import Derived.Maps.AppendAt
import Derived.Test.YthjhbhgfckaklaaTabT
namespace Go.Proofs.Ythjhbhgfckaklaa.P
open Go.RowKit Go.Shelf Go.Proofs.YthjhbhgfckaklaaW.PrintWords Go.Proofs.YthjhbhgfckaklaaW.PrintLast Go.Proofs.YthjhbhgfckaklaaW.PrintMore
set_option linter.unusedVariables false
set_option linter.unusedSimpArgs false
def enD (d : De) : En := ⟨pfD d, d.v⟩
def ensD (L : List De) : List En := L.map enD
theorem ok_ensD {L : List De} (h : ∀ d ∈ L, d.p.a.ok) : okE (ensD L) := fun e he => by
  obtain ⟨d, hd, rfl⟩ := List.mem_map.1 he
  exact ok_pfD (h d hd)
theorem dgP {w : World} {G o : Nat} {d : De} (h : w.rangeAt G o (lD d)) : w.rangeAt G (o + 1) (lP d.p) := fun j v hv => by
  have := h (j + 1) v (by unfold lD; rw [List.getElem?_cons_succ, List.getElem?_append_left (List.getElem?_eq_some_iff.1 hv).1]; exact hv)
  rw [show o + 1 + j = o + (j + 1) by omega]
  exact this
theorem dgV {w : World} {G o : Nat} {d : De} (hd : d.p.a.ok) (h : w.rangeAt G o (lD d)) : w.cell? ⟨G, o + 19, none⟩ = some (.int .i64 d.v) :=
  h 19 _ (by unfold lD; rw [List.getElem?_cons_succ, List.getElem?_append_right (by rw [lP_len hd]; exact Nat.le_refl _), lP_len hd]; rfl)
theorem dgR {w : World} {G o : Nat} {d : De} (hd : d.p.a.ok) (h : w.rangeAt G o (lD d)) : w.cell? ⟨G, o + 20, none⟩ = some (.bool d.raw) :=
  h 20 _ (by unfold lD; rw [List.getElem?_cons_succ, List.getElem?_append_right (by rw [lP_len hd]; decide), lP_len hd]; rfl)
theorem wp_append_at {P : Program} {o : Oper} {a : Act} {w : World} {K : Act → World → Prop} {Q : Exit → Act → World → Prop} (s x : Operand) (t : TypeId) (ho : o.op = .call { callee := .builtin .append, args := #[s, x], argTypes := #[t, t] })
    (base : Nat) (e : TypeId) (i : TypeInfo) (z : Value) (size bytes : Nat) (ht : P.underlying t = some (.slice e)) (hi : P.info? e = some i) (hz : i.zero = some z)
    (hsize : i.size = size) (hby : i.bytes = bytes) (hzs : z.cells.size = size) (hsz : 0 < size)
    (v : Value) (n : Nat) (xs : List Value) (hs : a.eval s = v) (hown : w.ownsRow base e size v n xs)
    (ad : Addr) (m c : Nat) (news : List Value) (hx : a.eval x = .slice (some ad) m c) (hl : news.length = m * size) (hnews : ∀ j u, news[j]? = some u → w.cell? (ad.add j) = some u) (h1 : ∀ u ∈ news, u.oneCell' = true)
    (h63 : n + m ≤ maxLen) (hbytes : (n + m) * bytes ≤ 140737488355328) (hbase : base ≤ w.heap.size)
    (h : ∀ v' w', w'.ownsRow base e size v' (n + m) (xs ++ news) → w.grownBy w' v.ownBlock → K (a.put o.dst v') w') : o.wp P a w K Q := by
  obtain ⟨v', w', hr, h2, h3, h4, h5⟩ := run_append_own_at (P := P) w base t o.type e i z size bytes ht hi hz hsize hby hzs hsz v n xs hown ad m c news hl hnews h1 h63 hbytes hbase
  unfold Oper.wp execOp
  simp only [ho, resolve, invoke, builtin, Sem.run_bind, Sem.run_pure, Result.andThen_ok, List.map_toArray, List.map_cons, List.map_nil, hs, hx, hr]
  exact h v' w' h2 h3
theorem lit_cells {w : World} {e : En} (he : e.p.a.ok) (c : TypeId) : ∀ j u, (lE e)[j]? = some u → (w.alloc (.cells (eE e) c)).cell? ((⟨w.heap.size, 0, none⟩ : Addr).add j) = some u := fun j u hj => by
  rw [Addr.add_mid]
  exact range_row (xs := lE e) (heap_alloc_new w _) j u hj
theorem grown_blk {w w' : World} {row : Option Nat} {g : Nat} {o : Obj} (h : w.grownBy w' row) (hn : row ≠ some g) (hg : w.heap[g]? = some o) : w'.heap[g]? = some o :=
  (h.block g (Array.getElem?_eq_some_iff.1 hg).1 (fun e => hn e.symm)).trans hg
theorem grown_cell {w w' : World} {row : Option Nat} {G o : Nat} {v : Value} (h : w.grownBy w' row) (hn : row ≠ some G) (hg : w.cell? ⟨G, o, none⟩ = some v) : w'.cell? ⟨G, o, none⟩ = some v :=
  (World.cell?_of_block (h.block G (World.block_lt_of_cell? w ⟨G, o, none⟩ hg) (fun e => hn e.symm))).trans hg
theorem own_from {w : World} {base n g : Nat} {te : TypeId} {v : Value} {xs : List Value} (h : w.ownsRow base te 19 v n xs) (hg : g < base) : v.ownBlock ≠ some g := by
  rcases h.2 with ⟨rfl, _⟩ | ⟨g', cap, cur, rfl, hb, _⟩
  · intro e; cases e
  · intro e
    have e' : g' = g := Option.some.inj e
    omega
theorem own_two {w : World} {b b' n n' : Nat} {te te' : TypeId} {v v' : Value} {xs xs' : List Value} (h : w.ownsRow b te 19 v n xs) (h' : w.ownsRow b' te' 19 v' n' xs') (ht : te ≠ te') (g : Nat) (hv : v.ownBlock = some g) : v'.ownBlock ≠ some g := by
  rcases h.2 with ⟨rfl, _⟩ | ⟨g1, cap, cur, rfl, hb, hg1, hn, hm, hz, hk⟩
  · cases hv
  · have e1 : g1 = g := Option.some.inj hv
    subst e1
    rcases h'.2 with ⟨rfl, _⟩ | ⟨g2, cap2, cur2, rfl, hb2, hg2, _⟩
    · intro e; cases e
    · intro e
      have e2 : g2 = g1 := Option.some.inj e
      subst e2
      rw [hg1] at hg2
      cases hg2
      exact ht rfl
theorem new_row {u : Value} {k base : Nat} {l : List En} (hl : okE l) (hk : k ≤ 900) (w : World) (h : w.ownsRow base 42 19 u k (flE l)) :
    Calls Try.prog 18 #[u] w fun r w' => r = .returned (.pointer (some ⟨w.heap.size, 0, none⟩)) ∧ (∃ sv, Tb w' w.heap.size w.heap.size 0 sv (newE [] l)) ∧ Below w.heap.size w w' := by
  have hkl : k = l.length := by have h1 := h.1; rw [flE_len hl] at h1; omega
  subst hkl
  rcases h.2 with ⟨rfl, h0⟩ | ⟨g, cap, cur, rfl, _⟩
  · have hl0 : l = [] := List.length_eq_zero_iff.1 h0
    subst hl0
    exact new_none w
  · obtain ⟨A, cap', G, he, hrd, hG⟩ := rd_of_own h hl 50 (fun g n cap i w hi => idx_en g n cap i w hi)
    obtain ⟨L, hL⟩ := enE_of hl
    have hLl : L.length = l.length := by rw [← hL]; exact (List.length_map ..).symm
    rcases hG with ⟨h1, _, _⟩ | ⟨cur, hg, _⟩
    · rw [h1] at he
      cases he
    · rw [he]
      rw [← hLl] at hrd ⊢
      rw [← hL] at hrd ⊢
      exact table_New A cap' G L (by omega) w hrd (Array.getElem?_eq_some_iff.1 hg).1
theorem own_row_far {w : World} {base n g : Nat} {te t : TypeId} {v : Value} {xs : List Value} {cs cells : Array Value} (h : w.ownsRow base te 19 v n xs) (hg : w.heap[g]? = some (.cells cs t (0, 0))) (ht : t ≠ te) : (w.setRow g cells).ownsRow base te 19 v n xs :=
  h.kept (row := some g) ⟨rfl, rfl, rfl, by rw [row_size]; exact Nat.le_refl _, fun k _ hk => row_far (fun e => hk (by rw [e]))⟩ (.inr (own_block_ne h hg ht))
theorem range_row_far {w : World} {G o g : Nat} {cs : List Value} {cells : Array Value} (h : w.rangeAt G o cs) (hn : G ≠ g) : (w.setRow g cells).rangeAt G o cs := fun j v hv => by
  exact (World.cell?_of_block (row_far hn)).trans (h j v hv)
theorem bel_drew {B : Nat} {w W : World} (h : Below B w W) : Below B w W.drew := h.trans ⟨rfl, rfl, rfl, Nat.le_refl _, fun _ _ => rfl⟩
theorem own_drew {w : World} {base n : Nat} {te : TypeId} {v : Value} {xs : List Value} (h : w.ownsRow base te 19 v n xs) : w.drew.ownsRow base te 19 v n xs := h
theorem range_drew {w : World} {G o : Nat} {cs : List Value} (h : w.rangeAt G o cs) : w.drew.rangeAt G o cs := h
theorem own_ge {w : World} {base n g : Nat} {te : TypeId} {v : Value} {xs : List Value} (h : w.ownsRow base te 19 v n xs) (hg : v.ownBlock = some g) : base ≤ g := by
  rcases h.2 with ⟨rfl, _⟩ | ⟨g', cap, cur, rfl, hb, _⟩
  · cases hg
  · have e' : g' = g := Option.some.inj hg
    omega
theorem own_apart {w : World} {b b' n n' : Nat} {te te' : TypeId} {v v' : Value} {xs xs' : List Value} (h : w.ownsRow b te 19 v n xs) (h' : w.ownsRow b' te' 19 v' n' xs') (ht : te' ≠ te) : v.ownBlock = none ∨ v.ownBlock ≠ v'.ownBlock := by
  rcases h.2 with ⟨rfl, _⟩ | ⟨g, cap, cur, rfl, _⟩
  · exact .inl rfl
  · exact .inr (fun e => own_two h' h ht g e.symm rfl)
theorem range_grown {w w' : World} {row : Option Nat} {G o : Nat} {cs : List Value} (h : w.grownBy w' row) (hn : row ≠ some G) (hr : w.rangeAt G o cs) : w'.rangeAt G o cs := fun j v hv => grown_cell h hn (hr j v hv)
set_option maxHeartbeats 8000000 in
set_option maxRecDepth 100000 in
theorem law_New (A : Option Addr) (n cap : Nat) (L : List De) (w : World) (hrd : RdD w A n cap L) :
    Calls Try.prog 5 #[.slice A n cap] w fun r w' => r = .returned (.bool true) ∧ Below w.heap.size w w' := by
  have HB := Aside0.mk (Below.refl w.heap.size w)
  have HRD := Aside0.mk hrd
  have HALL := Aside0.mk (show ∀ d ∈ L, d.p.a.ok from fun x hx => by
    obtain ⟨i, hi⟩ := List.getElem?_of_mem hx
    obtain ⟨_, _, _, _, h⟩ := hrd.at_ i x hi
    exact h)
  obtain ⟨i0, hi0, hz0, hz1, hz2⟩ := info_parts info_En
  clear hrd
  go_enter Try.func5, Try.ntmps5
  go_wp2
  go_loopw [3, 4, 5] (fun v3 v4 v5 wr => ∃ (k : Nat) (u3 u4 : Value), v3 = u3 ∧ v4 = u4 ∧ v5 = .int .i64 (k : Int) ∧ Aside0 (k ≤ 30 ∧ k ≤ L.length) ∧ Aside0 (wr.ownsRow w.heap.size 42 19 u3 k (flE (ensD (L.take k)))) ∧ Aside0 (Ow wr u4 (newE [] (ensD (L.take k)))) ∧ Aside0 (Below w.heap.size w wr)) (fun _ _ v5 _ => 31 - (intOf v5).toNat)
  case atStart => exact ⟨0, _, _, rfl, rfl, rfl, ⟨Nat.zero_le _, Nat.zero_le _⟩, ⟨World.ownsRow_nil _ _ _ _⟩, ⟨World.ownsRow_nil _ _ _ _⟩, HB⟩
  case round =>
    clear HB
    obtain ⟨k, u3, u4, rfl, rfl, rfl, HK, HU3, HU4, HB⟩ := hrel
    have HLN := Aside0.mk HRD.out.len
    have HTK := Aside0.mk (show ∀ d ∈ L.take k, d.p.a.ok from fun x hx => HALL.out x (List.mem_of_mem_take hx))
    have HNF := Aside0.mk (newE_facts (ensD (L.take k)) (ok_ensD HTK.out) [] (fun e he => by cases he) List.Pairwise.nil)
    have HNL := Aside0.mk (show (newE [] (ensD (L.take k))).length ≤ 1000 by
      have h1 := HNF.out.2.2
      have h2 : (ensD (L.take k)).length ≤ k := by unfold ensD; rw [List.length_map, List.length_take]; exact Nat.min_le_left _ _
      have h3 := HK.out.1
      rw [List.length_nil] at h1
      omega)
    by_cases hlt : k < L.length
    · have c0 : decide ((k : Int) < (n : Int)) = true := decide_eq_true (by have := HLN.out; omega)
      have c0n : decide (k < n) = true := decide_eq_true (by have := HLN.out; omega)
      by_cases h30 : k < 30
      · have c1n : decide (k < 30) = true := decide_eq_true h30
        have c1 : decide ((k : Int) < 30) = true := decide_eq_true (by omega)
        obtain ⟨d, hd⟩ : ∃ d, L[k]? = some d := ⟨L[k], List.getElem?_eq_getElem hlt⟩
        obtain ⟨G, o, hidx, hrg, hdok⟩ := HRD.out.at_ k d hd
        have HGL := Aside0.mk (show G < w.heap.size from World.block_lt_of_cell? w ⟨G, o, none⟩ (hrg 0 _ rfl))
        have HRG := Aside0.mk (range_below hrg HB.out)
        have HDO := Aside0.mk hdok
        have hTK : L.take (k + 1) = L.take k ++ [d] := by rw [List.take_add_one, hd]; rfl
        obtain ⟨q, hq⟩ : ∃ q, pfD d = q := ⟨_, rfl⟩
        have HQO := Aside0.mk (show q.a.ok by rw [← hq]; exact ok_pfD hdok)
        have HSN := Aside0.mk (show flE (ensD (L.take k)) ++ lE ⟨q, d.v⟩ = flE (ensD (L.take (k + 1))) by
          rw [hTK, ← hq]
          unfold ensD
          rw [List.map_append, flE_append]
          simp [flE, enD])
        obtain ⟨er, her⟩ : ∃ er : Int, er = if mayQ q = true then 0 else 1 := ⟨_, rfl⟩
        have HER := Aside0.mk her
        obtain ⟨l2, hl2⟩ : ∃ l2 : List En, l2 = if mayQ q = true then setE (newE [] (ensD (L.take k))) q d.v else newE [] (ensD (L.take k)) := ⟨_, rfl⟩
        have HL2 := Aside0.mk hl2
        have HS4 := Aside0.mk (show l2 = newE [] (ensD (L.take (k + 1))) by
          rw [hTK, hl2, ← hq]
          unfold ensD
          rw [List.map_append]
          exact (newE_snoc [] _ (enD d)).symm)
        have E1 := Aside0.mk (wrap_up6 k (by omega))
        have c20 := dgR hdok HRG.out
        cases hraw : d.raw with
        | true =>
          have HRAW := Aside0.mk hraw
          have HQE := Aside0.mk (show d.p = q by rw [← hq]; unfold pfD; rw [hraw]; rfl)
          rw [hraw] at c20
          clear hraw hd hrg hdok hq hTK her hl2
          go_wp2_with (first
            | ((with_reducible refine gate_dst (N := 24) rfl ?_); refine wpList_load_mid rfl 39 (.tmp 23) rfl G (o + 1) rfl (lP d.p) _ (dgP HRG.out) Try.underlying39 rfl (infoPf_len HDO.out) ?_)
            | ((with_reducible refine gate_dst (N := 6) rfl ?_); refine box_event ?hg (N := 6) ?hd (cs := eP noP) (t := 39) ?hr ?_; (case hd => rfl); (case hg => rfl); (case hr => first | (go_simp; done) | (go_simp; rfl)); intro g6 hg w2 hbox hb; have H6 := Aside0.mk hbox; have HG6 := Aside0.mk (show w.heap.size ≤ g6 by rw [hg]; exact HB.out.size); replace HB := Aside0.mk (below_step HB.out hb); replace HU3 := Aside0.mk (own_below HU3.out hb); replace HU4 := Aside0.mk (own_below HU4.out hb); replace HRG := Aside0.mk (range_below HRG.out hb); replace c20 := dgR HDO.out HRG.out; rw [HRAW.out] at c20; clear hb hg hbox)
            | ((with_reducible refine gate_store (t := 39) (p := 6) rfl ?_); refine wpList_store_row rfl 39 (.tmp 6) (.tmp 24) rfl g6 (eP d.p) rfl rfl 39 (eP noP) H6.out (infoEP HDO.out) ((show (eP noP).size = 18 from rfl).trans (eP_size HDO.out).symm) (eP_one _) ?_; replace HU3 := Aside0.mk (own_row_far (cells := eP d.p) HU3.out H6.out (by decide)); replace HU4 := Aside0.mk (own_row_far (cells := eP d.p) HU4.out H6.out (by decide)); replace HRG := Aside0.mk (range_row_far (g := g6) (cells := eP d.p) HRG.out (by have := HGL.out; have := HG6.out; omega)); replace H6 := Aside0.mk (row_new (cells := eP d.p) H6.out); replace HB := Aside0.mk (below_row HB.out HG6.out (eP d.p)); generalize w2.setRow g6 (eP d.p) = w3 at H6 HB HU3 HU4 HRG ⊢; replace c20 := dgR HDO.out HRG.out; rw [HRAW.out] at c20; rw [HQE.out] at H6))
          clear c20
          obtain ⟨S, hS⟩ : ∃ S : World → Prop, S = fun w' => w'.heap[g6]? = some (.cells (eP q) 39 (0, 0)) ∧ w'.cell? ⟨G, o + 19, none⟩ = some (.int .i64 d.v) := ⟨_, rfl⟩
          have HSx := Aside0.mk (show ∀ x : World, S x → x.heap[g6]? = some (.cells (eP q) 39 (0, 0)) ∧ x.cell? ⟨G, o + 19, none⟩ = some (.int .i64 d.v) by intro b h; rw [hS] at h; exact h)
          have HSi := Aside0.mk (show ∀ x : World, x.heap[g6]? = some (.cells (eP q) 39 (0, 0)) → x.cell? ⟨G, o + 19, none⟩ = some (.int .i64 d.v) → S x by intro b h h'; rw [hS]; exact ⟨h, h'⟩)
          have s0 : S w3.drew := HSi.out _ H6.out (dgV HDO.out HRG.out)
          replace HU3 := Aside0.mk (own_drew HU3.out)
          replace HU4 := Aside0.mk (own_drew HU4.out)
          replace HB := Aside0.mk (bel_drew HB.out)
          replace HRG := Aside0.mk (range_drew HRG.out)
          clear hS
          refine wp_region_held_drew (S := S) (by kernel_rfl) s0 (fun _ => ?_)
          generalize w3.drew = y0 at s0 HU3 HU4 HB HRG ⊢
          refine wpAnyH_take (i := 0) (v := u3) rfl (by kernel_rfl) (by kernel_rfl) (by kernel_rfl) (fun _ _ _ h => h) (Or.inl ⟨by kernel_rfl, fun w' h => by first | (go_simp; done) | (go_simp; rfl)⟩) s0 ?_
          (try simp only [Act.put, List.getElem_toArray, List.getElem_cons_succ, List.getElem_cons_zero, List.setIfInBounds_toArray, List.set_cons_zero, List.set_cons_succ])
          refine wpAnyH_take (i := 1) (v := .agg (eP q)) rfl ?at1b ?at1c ?at1d (fun _ _ _ h => h) ?at1e s0 ?at1f
          case at1b => kernel_rfl
          case at1c => kernel_rfl
          case at1d => kernel_rfl
          case at1e => exact yields_row (by kernel_rfl) 39 (.tmp 6) rfl g6 rfl 39 (eP q) (0, 0) _ (fun w' h => (HSx.out w' h).1) Try.underlying39 rfl (infoEP HQO.out)
          (try simp only [Act.put, List.getElem_toArray, List.getElem_cons_succ, List.getElem_cons_zero, List.setIfInBounds_toArray, List.set_cons_zero, List.set_cons_succ])
          refine wpAnyH_take (i := 2) (v := .slice A n cap) rfl (by kernel_rfl) (by kernel_rfl) (by kernel_rfl) (fun _ _ _ h => h) (Or.inl ⟨by kernel_rfl, fun w' h => by first | (go_simp; done) | (go_simp; rfl)⟩) s0 ?_
          (try simp only [Act.put, List.getElem_toArray, List.getElem_cons_succ, List.getElem_cons_zero, List.setIfInBounds_toArray, List.set_cons_zero, List.set_cons_succ])
          refine wpAnyH_take (i := 3) (v := .int .i64 (k : Int)) rfl (by kernel_rfl) (by kernel_rfl) (by kernel_rfl) (fun _ _ _ h => h) (Or.inl ⟨by kernel_rfl, fun w' h => by first | (go_simp; done) | (go_simp; rfl)⟩) s0 ?_
          (try simp only [Act.put, List.getElem_toArray, List.getElem_cons_succ, List.getElem_cons_zero, List.setIfInBounds_toArray, List.set_cons_zero, List.set_cons_succ])
          refine wpAnyH_take (i := 4) (v := .pointer (some ⟨G, o, none⟩)) rfl (by kernel_rfl) (by kernel_rfl) (by kernel_rfl) (fun _ _ _ h => h) (Or.inl ⟨by kernel_rfl, fun w' h => by have hf := hidx w'; first | (go_simp; done) | (go_simp; rfl)⟩) s0 ?_
          (try simp only [Act.put, List.getElem_toArray, List.getElem_cons_succ, List.getElem_cons_zero, List.setIfInBounds_toArray, List.set_cons_zero, List.set_cons_succ])
          refine wpAnyH_take (i := 5) (v := .pointer (some ⟨G, o + 19, none⟩)) rfl (by kernel_rfl) (by kernel_rfl) (by kernel_rfl) (fun _ _ _ h => h) (Or.inl ⟨by kernel_rfl, fun w' h => by first | (go_simp; done) | (go_simp; rfl)⟩) s0 ?_
          (try simp only [Act.put, List.getElem_toArray, List.getElem_cons_succ, List.getElem_cons_zero, List.setIfInBounds_toArray, List.set_cons_zero, List.set_cons_succ])
          refine wpAnyH_take (i := 6) (v := .int .i64 d.v) rfl (by kernel_rfl) (by kernel_rfl) (by kernel_rfl) (fun _ _ _ h => h) (Or.inl ⟨by kernel_rfl, fun w' h => by have hf := (HSx.out w' h).2; first | (go_simp; done) | (go_simp; rfl)⟩) s0 ?_
          (try simp only [Act.put, List.getElem_toArray, List.getElem_cons_succ, List.getElem_cons_zero, List.setIfInBounds_toArray, List.set_cons_zero, List.set_cons_succ])
          refine wpAnyH_take (i := 7) (v := .agg (eE ⟨q, d.v⟩)) rfl (by kernel_rfl) (by kernel_rfl) (by kernel_rfl) (fun _ _ _ h => h) (Or.inl ⟨by kernel_rfl, fun w' h => run_build_ef rfl rfl rfl HQO.out⟩) s0 ?_
          (try simp only [Act.put, List.getElem_toArray, List.getElem_cons_succ, List.getElem_cons_zero, List.setIfInBounds_toArray, List.set_cons_zero, List.set_cons_succ])
          refine held_step (i := 8) (by kernel_rfl) rfl (by kernel_rfl) (fun K hK => ?_)
          refine wp_lit_en (.tmp 40) rfl ⟨q, d.v⟩ HQO.out rfl ?_
          have s1 : S (y0.alloc (.cells (eE ⟨q, d.v⟩) 42)) := HSi.out _ (blk_below (HSx.out _ s0).1 (below_alloc (Below.refl _ _) _)) (Lib.cell?_alloc_some _ (HSx.out _ s0).2)
          refine hK.out _ _ s1 ?_
          clear hK K
          (try simp only [Act.put, List.getElem_toArray, List.getElem_cons_succ, List.getElem_cons_zero, List.setIfInBounds_toArray, List.set_cons_zero, List.set_cons_succ])
          refine held_step (i := 9) (by kernel_rfl) rfl (by kernel_rfl) (fun K hK => ?_)
          refine wp_append_at (.tmp 33) (.tmp 41) 50 rfl w.heap.size 42 i0 (.agg (eE noE)) 19 40 Try.underlying50 hi0 hz0 hz1 hz2 rfl (by decide) u3 k (flE (ensD (L.take k))) rfl (own_below HU3.out (below_alloc (Below.refl _ _) _)) ⟨y0.heap.size, 0, none⟩ 1 1 (lE ⟨q, d.v⟩) rfl ?qct1 ?qct2 ?qct3 ?qct4 ?qct5 ?qct6 ?_
          case qct1 => rw [lE_len (e := ⟨q, d.v⟩) HQO.out]
          case qct2 => exact lit_cells (e := ⟨q, d.v⟩) HQO.out _
          case qct3 => exact lE_one _
          case qct4 => have := HK.out.1; unfold maxLen; omega
          case qct5 => have := HK.out.1; omega
          case qct6 => have := HB.out.size; simp; omega
          intro u3' y1 hown hgrow
          have HU3' := Aside0.mk hown
          have hne6 : u3.ownBlock ≠ some g6 := own_block_ne HU3.out (HSx.out _ s0).1 (by decide)
          have hneG : u3.ownBlock ≠ some G := own_from HU3.out HGL.out
          have s2 : S y1 := HSi.out _ (grown_blk hgrow hne6 (HSx.out _ s1).1) (grown_cell hgrow hneG (HSx.out _ s1).2)
          replace HB := Aside0.mk ((HB.out.trans ((below_alloc (Below.refl _ _) _).mono HB.out.size)).grown hgrow (by have := HB.out.size; simp; omega) (fun g hg => own_ge HU3.out hg))
          replace HU4 := Aside0.mk ((own_below HU4.out (below_alloc (Below.refl _ _) _)).kept hgrow (own_apart HU4.out HU3.out (by decide)))
          replace HRG := Aside0.mk (range_grown hgrow hneG (range_below HRG.out (below_alloc (Below.refl _ _) _)))
          clear hown hgrow hne6 hneG
          refine hK.out _ _ s2 ?_
          clear hK K
          (try simp only [Act.put, List.getElem_toArray, List.getElem_cons_succ, List.getElem_cons_zero, List.setIfInBounds_toArray, List.set_cons_zero, List.set_cons_succ])
          refine wpAnyH_take (i := 10) (v := u3') rfl (by kernel_rfl) (by kernel_rfl) (by kernel_rfl) (fun _ _ _ h => h) (Or.inl ⟨by kernel_rfl, fun w' h => by first | (go_simp; done) | (go_simp; rfl)⟩) s2 ?_
          (try simp only [Act.put, List.getElem_toArray, List.getElem_cons_succ, List.getElem_cons_zero, List.setIfInBounds_toArray, List.set_cons_zero, List.set_cons_succ])
          refine wpAnyH_done (by kernel_rfl) ?_ _
          go_wp2
          have s0 : S y1.drew := HSi.out _ (HSx.out _ s2).1 (HSx.out _ s2).2
          replace HU3' := Aside0.mk (own_drew HU3'.out)
          replace HU4 := Aside0.mk (own_drew HU4.out)
          replace HB := Aside0.mk (bel_drew HB.out)
          replace HRG := Aside0.mk (range_drew HRG.out)
          refine wp_region_held_drew (S := S) (by kernel_rfl) s0 (fun _ => ?_)
          generalize y1.drew = y2 at s0 HU3' HU4 HB HRG ⊢
          refine wpAnyH_take (i := 0) (v := u4) rfl (by kernel_rfl) (by kernel_rfl) (by kernel_rfl) (fun _ _ _ h => h) (Or.inl ⟨by kernel_rfl, fun w' h => by first | (go_simp; done) | (go_simp; rfl)⟩) s0 ?_
          (try simp only [Act.put, List.getElem_toArray, List.getElem_cons_succ, List.getElem_cons_zero, List.setIfInBounds_toArray, List.set_cons_zero, List.set_cons_succ])
          refine wpAnyH_take (i := 1) (v := .agg (eP q)) rfl ?bt1b ?bt1c ?bt1d (fun _ _ _ h => h) ?bt1e s0 ?bt1f
          case bt1b => kernel_rfl
          case bt1c => kernel_rfl
          case bt1d => kernel_rfl
          case bt1e => exact yields_row (by kernel_rfl) 39 (.tmp 6) rfl g6 rfl 39 (eP q) (0, 0) _ (fun w' h => (HSx.out w' h).1) Try.underlying39 rfl (infoEP HQO.out)
          (try simp only [Act.put, List.getElem_toArray, List.getElem_cons_succ, List.getElem_cons_zero, List.setIfInBounds_toArray, List.set_cons_zero, List.set_cons_succ])
          refine wpAnyH_take (i := 2) (v := .slice A n cap) rfl (by kernel_rfl) (by kernel_rfl) (by kernel_rfl) (fun _ _ _ h => h) (Or.inl ⟨by kernel_rfl, fun w' h => by first | (go_simp; done) | (go_simp; rfl)⟩) s0 ?_
          (try simp only [Act.put, List.getElem_toArray, List.getElem_cons_succ, List.getElem_cons_zero, List.setIfInBounds_toArray, List.set_cons_zero, List.set_cons_succ])
          refine wpAnyH_take (i := 3) (v := .int .i64 (k : Int)) rfl (by kernel_rfl) (by kernel_rfl) (by kernel_rfl) (fun _ _ _ h => h) (Or.inl ⟨by kernel_rfl, fun w' h => by first | (go_simp; done) | (go_simp; rfl)⟩) s0 ?_
          (try simp only [Act.put, List.getElem_toArray, List.getElem_cons_succ, List.getElem_cons_zero, List.setIfInBounds_toArray, List.set_cons_zero, List.set_cons_succ])
          refine wpAnyH_take (i := 4) (v := .pointer (some ⟨G, o, none⟩)) rfl (by kernel_rfl) (by kernel_rfl) (by kernel_rfl) (fun _ _ _ h => h) (Or.inl ⟨by kernel_rfl, fun w' h => by have hf := hidx w'; first | (go_simp; done) | (go_simp; rfl)⟩) s0 ?_
          (try simp only [Act.put, List.getElem_toArray, List.getElem_cons_succ, List.getElem_cons_zero, List.setIfInBounds_toArray, List.set_cons_zero, List.set_cons_succ])
          refine wpAnyH_take (i := 5) (v := .pointer (some ⟨G, o + 19, none⟩)) rfl (by kernel_rfl) (by kernel_rfl) (by kernel_rfl) (fun _ _ _ h => h) (Or.inl ⟨by kernel_rfl, fun w' h => by first | (go_simp; done) | (go_simp; rfl)⟩) s0 ?_
          (try simp only [Act.put, List.getElem_toArray, List.getElem_cons_succ, List.getElem_cons_zero, List.setIfInBounds_toArray, List.set_cons_zero, List.set_cons_succ])
          refine wpAnyH_take (i := 6) (v := .int .i64 d.v) rfl (by kernel_rfl) (by kernel_rfl) (by kernel_rfl) (fun _ _ _ h => h) (Or.inl ⟨by kernel_rfl, fun w' h => by have hf := (HSx.out w' h).2; first | (go_simp; done) | (go_simp; rfl)⟩) s0 ?_
          (try simp only [Act.put, List.getElem_toArray, List.getElem_cons_succ, List.getElem_cons_zero, List.setIfInBounds_toArray, List.set_cons_zero, List.set_cons_succ])
          refine held_step (i := 7) (by kernel_rfl) rfl (by kernel_rfl) (fun K hK => ?_)
          go_wp2_with (go_at_call 25; refine (set_one u4 _ HNF.out.1 HNF.out.2.1 q HQO.out d.v er l2 HER.out HL2.out _ HU4.out HNL.out).mono ?_; rintro r y3 ⟨u4', rfl, HU4', hb⟩; have s1 := HSi.out _ (blk_below (HSx.out _ s0).1 hb) (cell_below (HSx.out _ s0).2 hb); replace HU3' := Aside0.mk (own_below HU3'.out hb); replace HB := Aside0.mk (below_step HB.out hb); clear hb)
          refine hK.out _ _ s1 ?_
          clear hK K
          (try simp only [Act.put, List.getElem_toArray, List.getElem_cons_succ, List.getElem_cons_zero, List.setIfInBounds_toArray, List.set_cons_zero, List.set_cons_succ])
          refine wpAnyH_take (i := 8) (v := .tuple #[u4', .int .i64 er]) rfl (by kernel_rfl) (by kernel_rfl) (by kernel_rfl) (fun _ _ _ h => h) (Or.inl ⟨by kernel_rfl, fun w' h => by first | (go_simp; done) | (go_simp; rfl)⟩) s1 ?_
          (try simp only [Act.put, List.getElem_toArray, List.getElem_cons_succ, List.getElem_cons_zero, List.setIfInBounds_toArray, List.set_cons_zero, List.set_cons_succ])
          refine wpAnyH_take (i := 9) (v := u4') rfl (by kernel_rfl) (by kernel_rfl) (by kernel_rfl) (fun _ _ _ h => h) (Or.inl ⟨by kernel_rfl, fun w' h => by first | (go_simp; done) | (go_simp; rfl)⟩) s1 ?_
          (try simp only [Act.put, List.getElem_toArray, List.getElem_cons_succ, List.getElem_cons_zero, List.setIfInBounds_toArray, List.set_cons_zero, List.set_cons_succ])
          refine wpAnyH_take (i := 10) (v := .int .i64 er) rfl (by kernel_rfl) (by kernel_rfl) (by kernel_rfl) (fun _ _ _ h => h) (Or.inl ⟨by kernel_rfl, fun w' h => by first | (go_simp; done) | (go_simp; rfl)⟩) s1 ?_
          (try simp only [Act.put, List.getElem_toArray, List.getElem_cons_succ, List.getElem_cons_zero, List.setIfInBounds_toArray, List.set_cons_zero, List.set_cons_succ])
          refine wpAnyH_take (i := 11) (v := u4') rfl (by kernel_rfl) (by kernel_rfl) (by kernel_rfl) (fun _ _ _ h => h) (Or.inl ⟨by kernel_rfl, fun w' h => by first | (go_simp; done) | (go_simp; rfl)⟩) s1 ?_
          (try simp only [Act.put, List.getElem_toArray, List.getElem_cons_succ, List.getElem_cons_zero, List.setIfInBounds_toArray, List.set_cons_zero, List.set_cons_succ])
          refine wpAnyH_take (i := 12) (v := .int .i64 er) rfl (by kernel_rfl) (by kernel_rfl) (by kernel_rfl) (fun _ _ _ h => h) (Or.inl ⟨by kernel_rfl, fun w' h => by first | (go_simp; done) | (go_simp; rfl)⟩) s1 ?_
          (try simp only [Act.put, List.getElem_toArray, List.getElem_cons_succ, List.getElem_cons_zero, List.setIfInBounds_toArray, List.set_cons_zero, List.set_cons_succ])
          refine wpAnyH_done (by kernel_rfl) ?_ _
          go_wp2
          go_roundw
          case rel => exact ⟨k + 1, u3', u4', rfl, rfl, (by first | rfl | exact congrArg (Value.int .i64) E1.out), ⟨by have := HK.out; omega⟩, ⟨HSN.out ▸ HU3'.out⟩, ⟨HS4.out ▸ HU4'.out⟩, HB⟩
          case measure => exact measure_up 31 k _ (by first | rfl | exact E1.out) (by have := HK.out; omega)
        | false =>
          have HRAW := Aside0.mk hraw
          have HGO := Aside0.mk (show ∀ w, Calls Try.prog 24 #[.agg (eP d.p)] w fun e w' => e = .returned (.agg (eP q)) ∧ Below w.heap.size w w' by
            have e : q = goodP d.p := by rw [← hq]; unfold pfD; rw [hraw]; rfl
            rw [e]
            exact fun w => ref05_Good d.p HDO.out w)
          rw [hraw] at c20
          clear hraw hd hrg hdok hq hTK her hl2
          go_wp2_with (first
            | ((with_reducible refine gate_dst (N := 24) rfl ?_); refine wpList_load_mid rfl 39 (.tmp 23) rfl G (o + 1) rfl (lP d.p) _ (dgP HRG.out) Try.underlying39 rfl (infoPf_len HDO.out) ?_)
            | ((with_reducible refine gate_dst (N := 6) rfl ?_); refine box_event ?hg (N := 6) ?hd (cs := eP noP) (t := 39) ?hr ?_; (case hd => rfl); (case hg => rfl); (case hr => first | (go_simp; done) | (go_simp; rfl)); intro g6 hg w2 hbox hb; have H6 := Aside0.mk hbox; have HG6 := Aside0.mk (show w.heap.size ≤ g6 by rw [hg]; exact HB.out.size); replace HB := Aside0.mk (below_step HB.out hb); replace HU3 := Aside0.mk (own_below HU3.out hb); replace HU4 := Aside0.mk (own_below HU4.out hb); replace HRG := Aside0.mk (range_below HRG.out hb); replace c20 := dgR HDO.out HRG.out; rw [HRAW.out] at c20; clear hb hg hbox)
            | ((with_reducible refine gate_store (t := 39) (p := 6) rfl ?_); refine wpList_store_row rfl 39 (.tmp 6) (.tmp 24) rfl g6 (eP d.p) rfl rfl 39 (eP noP) H6.out (infoEP HDO.out) ((show (eP noP).size = 18 from rfl).trans (eP_size HDO.out).symm) (eP_one _) ?_; replace HU3 := Aside0.mk (own_row_far (cells := eP d.p) HU3.out H6.out (by decide)); replace HU4 := Aside0.mk (own_row_far (cells := eP d.p) HU4.out H6.out (by decide)); replace HRG := Aside0.mk (range_row_far (g := g6) (cells := eP d.p) HRG.out (by have := HGL.out; have := HG6.out; omega)); replace H6 := Aside0.mk (row_new (cells := eP d.p) H6.out); replace HB := Aside0.mk (below_row HB.out HG6.out (eP d.p)); generalize w2.setRow g6 (eP d.p) = w3 at H6 HB HU3 HU4 HRG ⊢; replace c20 := dgR HDO.out HRG.out; rw [HRAW.out] at c20)
            | ((with_reducible refine gate_dst (N := 31) rfl ?_); refine wpList_load_row rfl 39 (.tmp 6) rfl g6 rfl 39 (eP d.p) (0, 0) _ H6.out Try.underlying39 rfl (infoEP HDO.out) ?_)
            | (go_at_call 24; refine (HGO.out _).mono ?_; rintro r w4 ⟨rfl, hb⟩; replace H6 := Aside0.mk (blk_below H6.out hb); replace HB := Aside0.mk (below_step HB.out hb); replace HU3 := Aside0.mk (own_below HU3.out hb); replace HU4 := Aside0.mk (own_below HU4.out hb); replace HRG := Aside0.mk (range_below HRG.out hb); replace c20 := dgR HDO.out HRG.out; clear hb)
            | ((with_reducible refine gate_store (t := 39) (p := 6) rfl ?_); refine wpList_store_row rfl 39 (.tmp 6) (.tmp 32) rfl g6 (eP q) rfl rfl 39 (eP d.p) H6.out (infoEP HQO.out) ((eP_size HDO.out).trans (eP_size HQO.out).symm) (eP_one _) ?_; replace HU3 := Aside0.mk (own_row_far (cells := eP q) HU3.out H6.out (by decide)); replace HU4 := Aside0.mk (own_row_far (cells := eP q) HU4.out H6.out (by decide)); replace HRG := Aside0.mk (range_row_far (g := g6) (cells := eP q) HRG.out (by have := HGL.out; have := HG6.out; omega)); replace H6 := Aside0.mk (row_new (cells := eP q) H6.out); replace HB := Aside0.mk (below_row HB.out HG6.out (eP q)); generalize w4.setRow g6 (eP q) = w5 at H6 HB HU3 HU4 HRG ⊢; replace c20 := dgR HDO.out HRG.out; rw [HRAW.out] at c20))
          clear c20
          obtain ⟨S, hS⟩ : ∃ S : World → Prop, S = fun w' => w'.heap[g6]? = some (.cells (eP q) 39 (0, 0)) ∧ w'.cell? ⟨G, o + 19, none⟩ = some (.int .i64 d.v) := ⟨_, rfl⟩
          have HSx := Aside0.mk (show ∀ x : World, S x → x.heap[g6]? = some (.cells (eP q) 39 (0, 0)) ∧ x.cell? ⟨G, o + 19, none⟩ = some (.int .i64 d.v) by intro b h; rw [hS] at h; exact h)
          have HSi := Aside0.mk (show ∀ x : World, x.heap[g6]? = some (.cells (eP q) 39 (0, 0)) → x.cell? ⟨G, o + 19, none⟩ = some (.int .i64 d.v) → S x by intro b h h'; rw [hS]; exact ⟨h, h'⟩)
          have s0 : S w5.drew := HSi.out _ H6.out (dgV HDO.out HRG.out)
          replace HU3 := Aside0.mk (own_drew HU3.out)
          replace HU4 := Aside0.mk (own_drew HU4.out)
          replace HB := Aside0.mk (bel_drew HB.out)
          replace HRG := Aside0.mk (range_drew HRG.out)
          clear hS
          refine wp_region_held_drew (S := S) (by kernel_rfl) s0 (fun _ => ?_)
          generalize w5.drew = y0 at s0 HU3 HU4 HB HRG ⊢
          refine wpAnyH_take (i := 0) (v := u3) rfl (by kernel_rfl) (by kernel_rfl) (by kernel_rfl) (fun _ _ _ h => h) (Or.inl ⟨by kernel_rfl, fun w' h => by first | (go_simp; done) | (go_simp; rfl)⟩) s0 ?_
          (try simp only [Act.put, List.getElem_toArray, List.getElem_cons_succ, List.getElem_cons_zero, List.setIfInBounds_toArray, List.set_cons_zero, List.set_cons_succ])
          refine wpAnyH_take (i := 1) (v := .agg (eP q)) rfl ?af1b ?af1c ?af1d (fun _ _ _ h => h) ?af1e s0 ?af1f
          case af1b => kernel_rfl
          case af1c => kernel_rfl
          case af1d => kernel_rfl
          case af1e => exact yields_row (by kernel_rfl) 39 (.tmp 6) rfl g6 rfl 39 (eP q) (0, 0) _ (fun w' h => (HSx.out w' h).1) Try.underlying39 rfl (infoEP HQO.out)
          (try simp only [Act.put, List.getElem_toArray, List.getElem_cons_succ, List.getElem_cons_zero, List.setIfInBounds_toArray, List.set_cons_zero, List.set_cons_succ])
          refine wpAnyH_take (i := 2) (v := .slice A n cap) rfl (by kernel_rfl) (by kernel_rfl) (by kernel_rfl) (fun _ _ _ h => h) (Or.inl ⟨by kernel_rfl, fun w' h => by first | (go_simp; done) | (go_simp; rfl)⟩) s0 ?_
          (try simp only [Act.put, List.getElem_toArray, List.getElem_cons_succ, List.getElem_cons_zero, List.setIfInBounds_toArray, List.set_cons_zero, List.set_cons_succ])
          refine wpAnyH_take (i := 3) (v := .int .i64 (k : Int)) rfl (by kernel_rfl) (by kernel_rfl) (by kernel_rfl) (fun _ _ _ h => h) (Or.inl ⟨by kernel_rfl, fun w' h => by first | (go_simp; done) | (go_simp; rfl)⟩) s0 ?_
          (try simp only [Act.put, List.getElem_toArray, List.getElem_cons_succ, List.getElem_cons_zero, List.setIfInBounds_toArray, List.set_cons_zero, List.set_cons_succ])
          refine wpAnyH_take (i := 4) (v := .pointer (some ⟨G, o, none⟩)) rfl (by kernel_rfl) (by kernel_rfl) (by kernel_rfl) (fun _ _ _ h => h) (Or.inl ⟨by kernel_rfl, fun w' h => by have hf := hidx w'; first | (go_simp; done) | (go_simp; rfl)⟩) s0 ?_
          (try simp only [Act.put, List.getElem_toArray, List.getElem_cons_succ, List.getElem_cons_zero, List.setIfInBounds_toArray, List.set_cons_zero, List.set_cons_succ])
          refine wpAnyH_take (i := 5) (v := .pointer (some ⟨G, o + 19, none⟩)) rfl (by kernel_rfl) (by kernel_rfl) (by kernel_rfl) (fun _ _ _ h => h) (Or.inl ⟨by kernel_rfl, fun w' h => by first | (go_simp; done) | (go_simp; rfl)⟩) s0 ?_
          (try simp only [Act.put, List.getElem_toArray, List.getElem_cons_succ, List.getElem_cons_zero, List.setIfInBounds_toArray, List.set_cons_zero, List.set_cons_succ])
          refine wpAnyH_take (i := 6) (v := .int .i64 d.v) rfl (by kernel_rfl) (by kernel_rfl) (by kernel_rfl) (fun _ _ _ h => h) (Or.inl ⟨by kernel_rfl, fun w' h => by have hf := (HSx.out w' h).2; first | (go_simp; done) | (go_simp; rfl)⟩) s0 ?_
          (try simp only [Act.put, List.getElem_toArray, List.getElem_cons_succ, List.getElem_cons_zero, List.setIfInBounds_toArray, List.set_cons_zero, List.set_cons_succ])
          refine wpAnyH_take (i := 7) (v := .agg (eE ⟨q, d.v⟩)) rfl (by kernel_rfl) (by kernel_rfl) (by kernel_rfl) (fun _ _ _ h => h) (Or.inl ⟨by kernel_rfl, fun w' h => run_build_ef rfl rfl rfl HQO.out⟩) s0 ?_
          (try simp only [Act.put, List.getElem_toArray, List.getElem_cons_succ, List.getElem_cons_zero, List.setIfInBounds_toArray, List.set_cons_zero, List.set_cons_succ])
          refine held_step (i := 8) (by kernel_rfl) rfl (by kernel_rfl) (fun K hK => ?_)
          refine wp_lit_en (.tmp 40) rfl ⟨q, d.v⟩ HQO.out rfl ?_
          have s1 : S (y0.alloc (.cells (eE ⟨q, d.v⟩) 42)) := HSi.out _ (blk_below (HSx.out _ s0).1 (below_alloc (Below.refl _ _) _)) (Lib.cell?_alloc_some _ (HSx.out _ s0).2)
          refine hK.out _ _ s1 ?_
          clear hK K
          (try simp only [Act.put, List.getElem_toArray, List.getElem_cons_succ, List.getElem_cons_zero, List.setIfInBounds_toArray, List.set_cons_zero, List.set_cons_succ])
          refine held_step (i := 9) (by kernel_rfl) rfl (by kernel_rfl) (fun K hK => ?_)
          refine wp_append_at (.tmp 33) (.tmp 41) 50 rfl w.heap.size 42 i0 (.agg (eE noE)) 19 40 Try.underlying50 hi0 hz0 hz1 hz2 rfl (by decide) u3 k (flE (ensD (L.take k))) rfl (own_below HU3.out (below_alloc (Below.refl _ _) _)) ⟨y0.heap.size, 0, none⟩ 1 1 (lE ⟨q, d.v⟩) rfl ?qcf1 ?qcf2 ?qcf3 ?qcf4 ?qcf5 ?qcf6 ?_
          case qcf1 => rw [lE_len (e := ⟨q, d.v⟩) HQO.out]
          case qcf2 => exact lit_cells (e := ⟨q, d.v⟩) HQO.out _
          case qcf3 => exact lE_one _
          case qcf4 => have := HK.out.1; unfold maxLen; omega
          case qcf5 => have := HK.out.1; omega
          case qcf6 => have := HB.out.size; simp; omega
          intro u3' y1 hown hgrow
          have HU3' := Aside0.mk hown
          have hne6 : u3.ownBlock ≠ some g6 := own_block_ne HU3.out (HSx.out _ s0).1 (by decide)
          have hneG : u3.ownBlock ≠ some G := own_from HU3.out HGL.out
          have s2 : S y1 := HSi.out _ (grown_blk hgrow hne6 (HSx.out _ s1).1) (grown_cell hgrow hneG (HSx.out _ s1).2)
          replace HB := Aside0.mk ((HB.out.trans ((below_alloc (Below.refl _ _) _).mono HB.out.size)).grown hgrow (by have := HB.out.size; simp; omega) (fun g hg => own_ge HU3.out hg))
          replace HU4 := Aside0.mk ((own_below HU4.out (below_alloc (Below.refl _ _) _)).kept hgrow (own_apart HU4.out HU3.out (by decide)))
          replace HRG := Aside0.mk (range_grown hgrow hneG (range_below HRG.out (below_alloc (Below.refl _ _) _)))
          clear hown hgrow hne6 hneG
          refine hK.out _ _ s2 ?_
          clear hK K
          (try simp only [Act.put, List.getElem_toArray, List.getElem_cons_succ, List.getElem_cons_zero, List.setIfInBounds_toArray, List.set_cons_zero, List.set_cons_succ])
          refine wpAnyH_take (i := 10) (v := u3') rfl (by kernel_rfl) (by kernel_rfl) (by kernel_rfl) (fun _ _ _ h => h) (Or.inl ⟨by kernel_rfl, fun w' h => by first | (go_simp; done) | (go_simp; rfl)⟩) s2 ?_
          (try simp only [Act.put, List.getElem_toArray, List.getElem_cons_succ, List.getElem_cons_zero, List.setIfInBounds_toArray, List.set_cons_zero, List.set_cons_succ])
          refine wpAnyH_done (by kernel_rfl) ?_ _
          go_wp2
          have s0 : S y1.drew := HSi.out _ (HSx.out _ s2).1 (HSx.out _ s2).2
          replace HU3' := Aside0.mk (own_drew HU3'.out)
          replace HU4 := Aside0.mk (own_drew HU4.out)
          replace HB := Aside0.mk (bel_drew HB.out)
          replace HRG := Aside0.mk (range_drew HRG.out)
          refine wp_region_held_drew (S := S) (by kernel_rfl) s0 (fun _ => ?_)
          generalize y1.drew = y2 at s0 HU3' HU4 HB HRG ⊢
          refine wpAnyH_take (i := 0) (v := u4) rfl (by kernel_rfl) (by kernel_rfl) (by kernel_rfl) (fun _ _ _ h => h) (Or.inl ⟨by kernel_rfl, fun w' h => by first | (go_simp; done) | (go_simp; rfl)⟩) s0 ?_
          (try simp only [Act.put, List.getElem_toArray, List.getElem_cons_succ, List.getElem_cons_zero, List.setIfInBounds_toArray, List.set_cons_zero, List.set_cons_succ])
          refine wpAnyH_take (i := 1) (v := .agg (eP q)) rfl ?bf1b ?bf1c ?bf1d (fun _ _ _ h => h) ?bf1e s0 ?bf1f
          case bf1b => kernel_rfl
          case bf1c => kernel_rfl
          case bf1d => kernel_rfl
          case bf1e => exact yields_row (by kernel_rfl) 39 (.tmp 6) rfl g6 rfl 39 (eP q) (0, 0) _ (fun w' h => (HSx.out w' h).1) Try.underlying39 rfl (infoEP HQO.out)
          (try simp only [Act.put, List.getElem_toArray, List.getElem_cons_succ, List.getElem_cons_zero, List.setIfInBounds_toArray, List.set_cons_zero, List.set_cons_succ])
          refine wpAnyH_take (i := 2) (v := .slice A n cap) rfl (by kernel_rfl) (by kernel_rfl) (by kernel_rfl) (fun _ _ _ h => h) (Or.inl ⟨by kernel_rfl, fun w' h => by first | (go_simp; done) | (go_simp; rfl)⟩) s0 ?_
          (try simp only [Act.put, List.getElem_toArray, List.getElem_cons_succ, List.getElem_cons_zero, List.setIfInBounds_toArray, List.set_cons_zero, List.set_cons_succ])
          refine wpAnyH_take (i := 3) (v := .int .i64 (k : Int)) rfl (by kernel_rfl) (by kernel_rfl) (by kernel_rfl) (fun _ _ _ h => h) (Or.inl ⟨by kernel_rfl, fun w' h => by first | (go_simp; done) | (go_simp; rfl)⟩) s0 ?_
          (try simp only [Act.put, List.getElem_toArray, List.getElem_cons_succ, List.getElem_cons_zero, List.setIfInBounds_toArray, List.set_cons_zero, List.set_cons_succ])
          refine wpAnyH_take (i := 4) (v := .pointer (some ⟨G, o, none⟩)) rfl (by kernel_rfl) (by kernel_rfl) (by kernel_rfl) (fun _ _ _ h => h) (Or.inl ⟨by kernel_rfl, fun w' h => by have hf := hidx w'; first | (go_simp; done) | (go_simp; rfl)⟩) s0 ?_
          (try simp only [Act.put, List.getElem_toArray, List.getElem_cons_succ, List.getElem_cons_zero, List.setIfInBounds_toArray, List.set_cons_zero, List.set_cons_succ])
          refine wpAnyH_take (i := 5) (v := .pointer (some ⟨G, o + 19, none⟩)) rfl (by kernel_rfl) (by kernel_rfl) (by kernel_rfl) (fun _ _ _ h => h) (Or.inl ⟨by kernel_rfl, fun w' h => by first | (go_simp; done) | (go_simp; rfl)⟩) s0 ?_
          (try simp only [Act.put, List.getElem_toArray, List.getElem_cons_succ, List.getElem_cons_zero, List.setIfInBounds_toArray, List.set_cons_zero, List.set_cons_succ])
          refine wpAnyH_take (i := 6) (v := .int .i64 d.v) rfl (by kernel_rfl) (by kernel_rfl) (by kernel_rfl) (fun _ _ _ h => h) (Or.inl ⟨by kernel_rfl, fun w' h => by have hf := (HSx.out w' h).2; first | (go_simp; done) | (go_simp; rfl)⟩) s0 ?_
          (try simp only [Act.put, List.getElem_toArray, List.getElem_cons_succ, List.getElem_cons_zero, List.setIfInBounds_toArray, List.set_cons_zero, List.set_cons_succ])
          refine held_step (i := 7) (by kernel_rfl) rfl (by kernel_rfl) (fun K hK => ?_)
          go_wp2_with (go_at_call 25; refine (set_one u4 _ HNF.out.1 HNF.out.2.1 q HQO.out d.v er l2 HER.out HL2.out _ HU4.out HNL.out).mono ?_; rintro r y3 ⟨u4', rfl, HU4', hb⟩; have s1 := HSi.out _ (blk_below (HSx.out _ s0).1 hb) (cell_below (HSx.out _ s0).2 hb); replace HU3' := Aside0.mk (own_below HU3'.out hb); replace HB := Aside0.mk (below_step HB.out hb); clear hb)
          refine hK.out _ _ s1 ?_
          clear hK K
          (try simp only [Act.put, List.getElem_toArray, List.getElem_cons_succ, List.getElem_cons_zero, List.setIfInBounds_toArray, List.set_cons_zero, List.set_cons_succ])
          refine wpAnyH_take (i := 8) (v := .tuple #[u4', .int .i64 er]) rfl (by kernel_rfl) (by kernel_rfl) (by kernel_rfl) (fun _ _ _ h => h) (Or.inl ⟨by kernel_rfl, fun w' h => by first | (go_simp; done) | (go_simp; rfl)⟩) s1 ?_
          (try simp only [Act.put, List.getElem_toArray, List.getElem_cons_succ, List.getElem_cons_zero, List.setIfInBounds_toArray, List.set_cons_zero, List.set_cons_succ])
          refine wpAnyH_take (i := 9) (v := u4') rfl (by kernel_rfl) (by kernel_rfl) (by kernel_rfl) (fun _ _ _ h => h) (Or.inl ⟨by kernel_rfl, fun w' h => by first | (go_simp; done) | (go_simp; rfl)⟩) s1 ?_
          (try simp only [Act.put, List.getElem_toArray, List.getElem_cons_succ, List.getElem_cons_zero, List.setIfInBounds_toArray, List.set_cons_zero, List.set_cons_succ])
          refine wpAnyH_take (i := 10) (v := .int .i64 er) rfl (by kernel_rfl) (by kernel_rfl) (by kernel_rfl) (fun _ _ _ h => h) (Or.inl ⟨by kernel_rfl, fun w' h => by first | (go_simp; done) | (go_simp; rfl)⟩) s1 ?_
          (try simp only [Act.put, List.getElem_toArray, List.getElem_cons_succ, List.getElem_cons_zero, List.setIfInBounds_toArray, List.set_cons_zero, List.set_cons_succ])
          refine wpAnyH_take (i := 11) (v := u4') rfl (by kernel_rfl) (by kernel_rfl) (by kernel_rfl) (fun _ _ _ h => h) (Or.inl ⟨by kernel_rfl, fun w' h => by first | (go_simp; done) | (go_simp; rfl)⟩) s1 ?_
          (try simp only [Act.put, List.getElem_toArray, List.getElem_cons_succ, List.getElem_cons_zero, List.setIfInBounds_toArray, List.set_cons_zero, List.set_cons_succ])
          refine wpAnyH_take (i := 12) (v := .int .i64 er) rfl (by kernel_rfl) (by kernel_rfl) (by kernel_rfl) (fun _ _ _ h => h) (Or.inl ⟨by kernel_rfl, fun w' h => by first | (go_simp; done) | (go_simp; rfl)⟩) s1 ?_
          (try simp only [Act.put, List.getElem_toArray, List.getElem_cons_succ, List.getElem_cons_zero, List.setIfInBounds_toArray, List.set_cons_zero, List.set_cons_succ])
          refine wpAnyH_done (by kernel_rfl) ?_ _
          go_wp2
          go_roundw
          case rel => exact ⟨k + 1, u3', u4', rfl, rfl, (by first | rfl | exact congrArg (Value.int .i64) E1.out), ⟨by have := HK.out; omega⟩, ⟨HSN.out ▸ HU3'.out⟩, ⟨HS4.out ▸ HU4'.out⟩, HB⟩
          case measure => exact measure_up 31 k _ (by first | rfl | exact E1.out) (by have := HK.out; omega)
      · have c1n : decide (k < 30) = false := decide_eq_false h30
        have c1 : decide ((k : Int) < 30) = false := decide_eq_false (by omega)
        clear HRD
        have HN9 := Aside0.mk (show (newE [] (ensD (L.take k))).length ≤ 900 by
          have h1 := HNF.out.2.2
          have h2 : (ensD (L.take k)).length ≤ k := by unfold ensD; rw [List.length_map, List.length_take]; exact Nat.min_le_left _ _
          have h3 := HK.out.1
          rw [List.length_nil] at h1
          omega)
        go_wp2_with (first
          | (go_at_call 18; refine (new_row (ok_ensD HTK.out) (by have := HK.out; omega) _ HU3.out).mono ?_; rintro r w9 ⟨rfl, ⟨sv, ht⟩, hb⟩; have HT := Aside0.mk ht; replace HU4 := Aside0.mk (own_below HU4.out hb); replace HB := Aside0.mk (below_step HB.out hb); clear ht hb)
          | (go_at_call 26; refine (law_like _ _ 0 sv u4 _ HN9.out _ HT.out HU4.out).mono ?_; rintro r w10 ⟨rfl, hb⟩; replace HB := Aside0.mk (below_step HB.out hb); clear hb)
          | (go_at_call 23; refine (law_lives _).mono ?_; rintro r w11 ⟨rfl, hb⟩; replace HB := Aside0.mk (below_step HB.out hb); clear hb))
        all_goals (go_ret; exact ⟨rfl, HB.out⟩)
    · have c0 : decide ((k : Int) < (n : Int)) = false := decide_eq_false (by have := HLN.out; omega)
      have c0n : decide (k < n) = false := decide_eq_false (by have := HLN.out; omega)
      clear HRD
      have HN9 := Aside0.mk (show (newE [] (ensD (L.take k))).length ≤ 900 by
        have h1 := HNF.out.2.2
        have h2 : (ensD (L.take k)).length ≤ k := by unfold ensD; rw [List.length_map, List.length_take]; exact Nat.min_le_left _ _
        have h3 := HK.out.1
        rw [List.length_nil] at h1
        omega)
      go_wp2_with (first
        | (go_at_call 18; refine (new_row (ok_ensD HTK.out) (by have := HK.out; omega) _ HU3.out).mono ?_; rintro r w9 ⟨rfl, ⟨sv, ht⟩, hb⟩; have HT := Aside0.mk ht; replace HU4 := Aside0.mk (own_below HU4.out hb); replace HB := Aside0.mk (below_step HB.out hb); clear ht hb)
        | (go_at_call 26; refine (law_like _ _ 0 sv u4 _ HN9.out _ HT.out HU4.out).mono ?_; rintro r w10 ⟨rfl, hb⟩; replace HB := Aside0.mk (below_step HB.out hb); clear hb)
        | (go_at_call 23; refine (law_lives _).mono ?_; rintro r w11 ⟨rfl, hb⟩; replace HB := Aside0.mk (below_step HB.out hb); clear hb))
      all_goals (go_ret; exact ⟨rfl, HB.out⟩)
end Go.Proofs.Ythjhbhgfckaklaa.P
