/-
  Has a table what it must have? (the walk)
-/
import Derived.Test.YthjhbhgfckaklaaTabR
import Derived.Test.YthjhbhgfckaklaaTabS
import Derived.Test.YthjhbhgfckaklaaTabW
namespace Go.Proofs.Ythjhbhgfckaklaa.P
open Go.RowKit Go.Shelf Go.Proofs.YthjhbhgfckaklaaW.PrintWords Go.Proofs.YthjhbhgfckaklaaW.PrintLast Go.Proofs.YthjhbhgfckaklaaW.PrintMore
set_option linter.unusedVariables false
set_option linter.unusedSimpArgs false
attribute [local go_sem] Oper.semAt_some
theorem results_bool {fn : Func} {p : Tmp} (h : fn.results = #[.cell p 4]) (tmps : Array Value) (w : World) (g : Nat) {b : Bool} (hp : tmps.getD p undef = .pointer (some ⟨g, 0, none⟩)) (h1 : Boxed w g 4 (.bool b)) :
    (results fn tmps).run Try.prog w = .ok (.bool b) w := by
  have hp' : tmps[p]?.getD undef = .pointer (some ⟨g, 0, none⟩) := by simpa using hp
  have c1 := h1.cell
  simp [results, h, hp', asAddr, loadVar, c1, go_sem]
theorem idx_same {A A' : Option Addr} {n n' c c' : Nat} (h : Value.slice A n c = .slice A' n' c') : A = A' ∧ n = n' ∧ c = c' := by
  injection h with h1 h2 h3
  exact ⟨h1, h2, h3⟩
theorem eql_func (f : Fn) (xs ys : Array Value) (w : World) : (binOp .eql 70 (.func f xs ys) .nilFunc).run Try.prog w = .ok (.bool false) w :=
  eql_func_nil w _ _ _ _ f xs ys Try.underlying70
theorem below_cell {n : Nat} {w W : World} {b : Nat} {v : Value} (h : Below n w W) (hb : n ≤ b) : Below n w (W.setCell ⟨b, 0, none⟩ v) :=
  h.trans ⟨rfl, rfl, rfl, (KeepsWalks.setCell W _ v).size, fun k hk => Below.heap_setCell W _ v k (by show k ≠ b; omega)⟩
/-- What 'like' knows of its world. -/
structure Lk (w : World) (g3 g4 g6 T base : Nat) (st : Int) (sv u : Value) (l : List En) (W : World) (b : Bool) (n : Nat) : Prop where
  b3 : Boxed W g3 51 u
  b4 : Boxed W g4 4 (.bool b)
  b6 : Boxed W g6 3 (.int .i64 (n : Int))
  ow : Ow W u l
  tb : Tb W T base st sv l
  bel : Below w.heap.size w W
theorem lk_kept {w : World} {g3 g4 g6 T base : Nat} {st : Int} {sv u : Value} {l : List En} {W W' : World} {b : Bool} {n : Nat} {row : Option Nat} (h : Lk w g3 g4 g6 T base st sv u l W b n) (hg : W.grownBy W' row) (hr : ∀ r, row = some r → w.heap.size ≤ r ∧ ∃ o : Obj, W.heap[r]? = some o ∧ o.isCells = false) : Lk w g3 g4 g6 T base st sv u l W' b n :=
  ⟨cells_kept h.b3 hg (fun r e => (hr r e).2), cells_kept h.b4 hg (fun r e => (hr r e).2), cells_kept h.b6 hg (fun r e => (hr r e).2), own_kept h.ow hg (fun r e => (hr r e).2), tb_kept h.tb hg (fun r e => (hr r e).2), h.bel.grown hg h.bel.size (fun k e => (hr k e).1)⟩
theorem lk_below {w : World} {g3 g4 g6 T base : Nat} {st : Int} {sv u : Value} {l : List En} {W W' : World} {b : Bool} {n : Nat} (h : Lk w g3 g4 g6 T base st sv u l W b n) (hb : Below W.heap.size W W') : Lk w g3 g4 g6 T base st sv u l W' b n :=
  lk_kept (row := none) h ⟨hb.os, hb.tape, hb.output, hb.size, fun k hk _ => hb.block k hk⟩ (fun r e => by cases e)
theorem box_other {W : World} {g k : Nat} {t : TypeId} {v u : Value} (h : Boxed W g t v) (hn : g ≠ k) : Boxed (W.setCell ⟨k, 0, none⟩ u) g t v := (Below.heap_setCell W ⟨k, 0, none⟩ u g hn).trans h
theorem box_here {W : World} {g : Nat} {t : TypeId} {v u : Value} (h : Boxed W g t v) : Boxed (W.setCell ⟨g, 0, none⟩ u) g t u := blk_put h 0 u rfl
theorem own_cell {W : World} {base n k : Nat} {te t : TypeId} {v u x : Value} {xs : List Value} (h : W.ownsRow base te 19 v n xs) (hk : Boxed W k t x) (ht : t ≠ te) : (W.setCell ⟨k, 0, none⟩ u).ownsRow base te 19 v n xs :=
  own_far h (own_block_ne h hk ht)
theorem tb_cell {W : World} {T base k : Nat} {st : Int} {v u x : Value} {t : TypeId} {l : List En} (h : Tb W T base st v l) (hk : Boxed W k t x) (ht : t ≠ 42) : Tb (W.setCell ⟨k, 0, none⟩ u) T base st v l :=
  ⟨(Below.heap_setCell W ⟨k, 0, none⟩ u T (by
    intro e
    have e' : T = k := e
    subst e'
    have h1 := h.blk
    rw [show W.heap[T]? = _ from hk] at h1
    cases h1)).trans h.blk, own_cell h.row hk ht, h.ok⟩
theorem lk_count {w : World} {g3 g4 g6 T base : Nat} {st : Int} {sv u : Value} {l : List En} {W : World} {b : Bool} {n : Nat} (h : Lk w g3 g4 g6 T base st sv u l W b n) (h36 : g3 ≠ g6) (h46 : g4 ≠ g6) (hg : w.heap.size ≤ g6) (m : Nat) : Lk w g3 g4 g6 T base st sv u l (W.setCell ⟨g6, 0, none⟩ (.int .i64 (m : Int))) b m :=
  ⟨box_other h.b3 h36, box_other h.b4 h46, box_here h.b6, own_cell h.ow h.b6 (by decide), tb_cell h.tb h.b6 (by decide), below_cell h.bel hg⟩
theorem pre_next {L : List Eo} {pre : List Eo} {x y : Eo} (hp : pre <+: L) (hy : L[pre.length]? = some y) : pre ++ [x] <+: L ↔ x = y := by
  obtain ⟨t, rfl⟩ := hp
  rw [List.getElem?_append_right (Nat.le_refl _), Nat.sub_self] at hy
  cases t with
  | nil => simp at hy
  | cons z t =>
    have hz : z = y := by simpa using hy
    subst hz
    constructor
    · rintro ⟨r, hr⟩
      rw [List.append_assoc] at hr
      have := List.append_cancel_left hr
      simp at this
      exact this.1
    · rintro rfl
      exact ⟨t, by simp⟩
theorem keeps_drewN (W : World) (k : Nat) : KeepsOthers W (W.drewN k) := ⟨Nat.le_refl _, fun _ _ h _ => h⟩
theorem below_drewN' {n : Nat} {w W : World} (h : Below n w W) (k : Nat) : Below n w (W.drewN k) := h.trans ⟨rfl, rfl, rfl, Nat.le_refl _, fun _ _ => rfl⟩
theorem part_val {w : World} {G o : Nat} {e : En} (he : e.p.a.ok) (h : w.rangeAt G o (lE e)) : w.cell? ⟨G, o + 18, none⟩ = some (.int .i64 e.v) := part_v he h
theorem bel_first {W w' : World} (h : Below W.drew.heap.size W.drew w') : Below W.heap.size W w' := (bel_later (Below.refl W.heap.size W)).trans h
theorem kpg_cell {W : World} {G k : Nat} {u : Value} (h : G ≠ k) : KpG G W (W.setCell ⟨k, 0, none⟩ u) := ⟨by unfold World.setCell; simp, Below.heap_setCell W ⟨k, 0, none⟩ u G h⟩
set_option maxRecDepth 100000 in
set_option maxHeartbeats 4000000 in
theorem law_like (T base : Nat) (st : Int) (sv u : Value) (l : List En) (hn : l.length ≤ 900) (w : World) (ht : Tb w T base st sv l) (ho : Ow w u l) :
    Calls Try.prog 26 #[.pointer (some ⟨T, 0, none⟩), u] w fun r w' => r = .returned (.bool true) ∧ Below w.heap.size w w' := by
  obtain ⟨L, hL⟩ := enE_of ht.ok
  have hLl : L.length = l.length := by rw [← hL]; exact (List.length_map ..).symm
  have HN := Aside0.mk hn
  have HT := Aside0.mk ht
  have HO := Aside0.mk ho
  have HLL := Aside0.mk hLl
  have HEL := Aside0.mk hL
  obtain ⟨A2, cap2, G2, rfl, hrd2⟩ := ow_rd ho ht.ok
  clear hn ht ho hL hrd2
  have q70 : ∀ (f : Fn) (xs ys : Array Value) (w : World), (binOp .eql 70 (.func f xs ys) .nilFunc).run Try.prog w = .ok (.bool false) w := eql_func
  refine (callsIn_wide (n := 9)).1 ?_
  refine callsIn_of_wp_marks Try.func26 rfl trivial ?_ rfl
  simp only [Try.ntmps26, List.size_toArray, List.length_cons, List.length_nil, Nat.reduceAdd, Nat.reduceSub, Array.replicate_succ, Array.replicate_zero, List.push_toArray, List.append_toArray, List.nil_append, List.cons_append]
  gi_wp2_with (first
    | (refine ⟨trivial, ?_⟩; gi_at_call 31
       have hbb : Below w.heap.size w ((w.alloc (.cells #[.slice A2 l.length cap2] 51)).alloc (.cells #[.bool false] 4)) := ((Below.refl _ w).alloc (Nat.le_refl _) _).alloc (by simp) _
       have k3 := (Boxed.new w 51 (.slice A2 l.length cap2)).alloc (.cells #[.bool false] 4)
       have k4 := Boxed.new (w.alloc (.cells #[.slice A2 l.length cap2] 51)) 4 (.bool false)
       rw [World.size_alloc] at k4
       refine (callsIn_wide.2 (table_All T base st sv l (by have := HN.out; omega) _ (tb_below HT.out hbb))).mono ?_
       rintro e w2 ⟨A, cap, G, Bs, rfl, hbs, hrd, hG, hb⟩
       have HBS := Aside0.mk hbs
       have HRD := Aside0.mk hrd
       have HG := Aside0.mk hG
       have K3 : Aside0 (Boxed w2 w.heap.size 51 (.slice A2 l.length cap2)) := ⟨blk_below k3 hb⟩
       have K4 : Aside0 (Boxed w2 (w.heap.size + 1) 4 (.bool false)) := ⟨blk_below k4 hb⟩
       have HB2 := Aside0.mk (below_step hbb hb)
       clear hbs hrd hG hb hbb k3 k4))
  have hb2 := HB2.out
  have hsz2 := hb2.size
  have g3lt := K3.out.lt
  have g4lt := K4.out.lt
  have hlk0 : Lk w w.heap.size (w.heap.size + 1) w2.heap.size T base st sv (.slice A2 l.length cap2) l (w2.alloc (.cells #[.int .i64 0] 3)) false 0 :=
    ⟨K3.out.alloc _, K4.out.alloc _, Boxed.new w2 3 (.int .i64 0), own_below HO.out (hb2.trans (((Below.refl _ w2).alloc (Nat.le_refl _) _).mono hb2.size)), tb_below HT.out (hb2.trans (((Below.refl _ w2).alloc (Nat.le_refl _) _).mono hb2.size)), hb2.trans (((Below.refl _ w2).alloc (Nat.le_refl _) _).mono hb2.size)⟩
  have hbs0 := HBS.out.alloc (.cells #[.int .i64 0] 3)
  have hG0 := HG.out
  have hrd0 : Rd (w2.alloc (.cells #[.int .i64 0] 3)) 50 A L.length cap G (L.map fun x => x.1) := by
    rw [show (L.map fun x => x.1) = l from HEL.out, HLL.out]
    exact rd_blk HRD.out (Below.heap_alloc _ _ _ hG0)
  have hsz : (w2.alloc (.cells #[.int .i64 0] 3)).heap.size = w2.heap.size + 1 := by simp
  have HOK := Aside0.mk HT.out.ok
  obtain ⟨W0, hW0⟩ : ∃ W0, (w2.alloc (.cells #[.int .i64 0] 3)) = W0 := ⟨_, rfl⟩
  rw [hW0] at hlk0 hbs0 hrd0 hsz ⊢
  clear hW0 HT HO HRD HBS K3 K4
  refine wpIn_rangeFunc_ownH rfl (by omega) (gf := 67) (lb := #[.pointer (some ⟨Bs, 0, none⟩)]) rfl trivial (enters_of Try.func67 (by kernel_rfl) rfl)
    (vals_stops (fun x : Eo => x.1) (fun x => x.2) _ (by omega) Bs A cap G L (by have := HN.out; omega) W0 (HLL.out ▸ hbs0) hrd0 (by omega)) kpg_t (kpg_b (by omega)) (Below.refl _ _) (fun _ => rfl)
    (fun pre W => pre <+: L ∧ Lk w w.heap.size (w.heap.size + 1) w2.heap.size T base st sv (.slice A2 l.length cap2) l W false pre.length)
    (fun _ pre _ => ¬ pre <+: L)
    (fun pre X Y row hs hg hr => ⟨hs.1, lk_kept hs.2 hg (fun r e => ⟨by have h1 := hr r e; omega, (hr r e).2⟩)⟩)
    (fun _ _ _ _ _ hs _ _ => hs)
    ⟨List.nil_prefix, hlk0⟩
    (fun x a' W => ∃ Bx, W0.heap.size ≤ Bx ∧ W.heap[Bx]? = some (.cells (eE x.1) 42 (0, 0)) ∧ a' = { tmps := #[.pointer (some ⟨T, 0, none⟩), .slice A2 l.length cap2, undef, .pointer (some ⟨w.heap.size, 0, none⟩), .pointer (some ⟨w.heap.size + 1, 0, none⟩), (.func (.func 67) #[] #[.pointer (some ⟨Bs, 0, none⟩)]), .pointer (some ⟨w2.heap.size, 0, none⟩), .pointer (some ⟨Bx, 0, none⟩), .pointer (some ⟨T, 0, none⟩), (.func (.func 67) #[] #[.pointer (some ⟨Bs, 0, none⟩)]), (.func (.func 67) #[] #[.pointer (some ⟨Bs, 0, none⟩)]), .bool false, (.func (.func 67) #[] #[.pointer (some ⟨Bs, 0, none⟩)]), .agg (eE x.1), undef, undef, undef, undef, undef, undef, undef, undef, undef, undef, undef, undef, undef, undef, undef, undef, undef, undef, undef, undef, undef, undef, undef, undef, undef, undef, undef, undef, undef, undef, undef, undef, undef, undef], defers := [] })
    (fun x a' _ X Y row hs hg hr => by obtain ⟨Bx, h1, h2, h3⟩ := hs; exact ⟨Bx, h1, cells_kept h2 hg (fun r e => (hr r e).2), h3⟩)
    ?assign ?body ?done ?stop
  case assign =>
    rintro l' pre x W K ⟨hpl, hlk⟩ hK
    dsimp only [encE]
    have HPL := Aside0.mk hpl
    have HLK := Aside0.mk hlk
    have HGW := Aside0.mk (show G < W.heap.size by have := hlk.b6.lt; omega)
    have HW0 := Aside0.mk (show W0.heap.size ≤ W.heap.size by have := hlk.b6.lt; omega)
    clear hpl hlk
    rw [assign_one]
    simp only [List.setIfInBounds_toArray, List.set_cons_zero, List.set_cons_succ]
    gi_wp2_with (first
      | ((with_reducible refine in_gate (N := 7) rfl ?_); refine in_new rfl (N := 7) rfl (fun f hf => by simp [Oper.about] at hf) (fun c hc => by cases hc) (cs := eE noE) (t := 42) ?hr ?_; (case hr => first | (go_simp; done) | (go_simp; rfl)); intro g7 hg7 w1 hbox hb; have HBX := Aside0.mk hbox; have HB1 := Aside0.mk hb; have HG7 := Aside0.mk hg7; clear hbox hb hg7)
      | ((with_reducible refine in_gate_store (p := 7) rfl ?_); refine in_store_row rfl 42 (.tmp 7) (.tmp 13) rfl g7 (eE x.1) rfl rfl 42 (eE noE) HBX.out (infoEE x.2) ((by rfl : (eE noE).size = 19).trans (eE_size x.2).symm) (eE_one x.1) ?_
         have HX := Aside0.mk (row_new (cells := eE x.1) HBX.out)
         have HB3 := Aside0.mk (below_row HB1.out (Nat.le_of_eq HG7.out.symm) (eE x.1))
         generalize w1.setRow g7 (eE x.1) = w3 at HX HB3 ⊢))
    have hb3 := HB3.out
    exact hK _ _ (KeepsOthers.from ⟨hb3.size, fun k o hk _ => blk_below hk hb3⟩ _) (kpg_below hb3 HGW.out) ⟨HPL.out, lk_below HLK.out hb3⟩ ⟨g7, by have := HG7.out; have := HW0.out; omega, HX.out, rfl⟩
  case body =>
    rintro l' pre x a' W hl hrl ⟨hpl, hlk⟩ ⟨Bx, hBx, bX, rfl⟩ hlt
    obtain ⟨y, hy⟩ : ∃ y, L[pre.length]? = some y := ⟨L[pre.length], List.getElem?_eq_getElem hlt⟩
    obtain ⟨A3, cap3, G3, he3, hrd3⟩ := ow_rd hlk.ow HOK.out
    obtain ⟨rfl, _, rfl⟩ := idx_same he3
    have hyl : l[pre.length]? = some y.1 := by rw [← HEL.out]; unfold enE; rw [List.getElem?_map, hy]; rfl
    have hix := fun w => hrd3.idx w pre.length (by rw [← HLL.out]; exact hlt)
    have HRY := Aside0.mk (hrd3.at_ pre.length y.1 hyl)
    have HRX := Aside0.mk (range_row (xs := lE x.1) bX)
    have HXO := Aside0.mk x.2
    have HYO := Aside0.mk y.2
    have c3 := hlk.b3.cell
    have c4 := hlk.b4.cell
    have c6 := hlk.b6.cell
    have f4 := hlk.b4.frozen
    have f6 := hlk.b6.frozen
    have d0 : decide ((l.length : Int) ≤ (pre.length : Int)) = false := decide_eq_false (by have := HLL.out; omega)
    have d0n : decide (l.length ≤ pre.length) = false := decide_eq_false (by have := HLL.out; omega)
    have vx := part_val HXO.out HRX.out
    have vy := part_val HYO.out HRY.out
    rw [Nat.zero_add] at vx
    have HPN := Aside0.mk (pre_next (x := x) hpl hy)
    have HLK := Aside0.mk hlk
    have HPL := Aside0.mk hpl
    have HN3 := Aside0.mk hlt
    clear hlk hpl hyl he3 hrd3 hlt hy bX
    dsimp only
    have HEQ := Aside0.mk (fun w => eq_pf 9996 x.1.p y.1.p HXO.out HYO.out w)
    by_cases hp : x.1.p = y.1.p
    · rw [decide_eq_true hp] at HEQ
      by_cases hv : x.1.v = y.1.v
      · have HXY := Aside0.mk (show x = y from Subtype.ext (by cases hx : x.1; cases hy : y.1; rw [hx, hy] at hp hv; cases hp; cases hv; rfl))
        have hvv : (x.1.v == y.1.v) = true := beq_iff_eq.2 hv
        clear hp hv
        gi_wp2
        refine wpIn_region_quiet_round l' rfl (by kernel_rfl) (by kernel_rfl) (by kernel_rfl) (C := fun w' => ∃ nq, w' = W.drewN nq) ⟨1, rfl⟩ ?_
        repeat (first
          | gi_big_quiet_skip
          | (gi_big_quiet_want; first
              | ((with_reducible refine quiet_gate (N := 19) rfl ?_); refine quietIn_load_mid 39 (.tmp 18) rfl Bx 0 rfl (lP x.1.p) _ (fun w h => rangeAt_drewN (part_pf HRX.out) h) Try.underlying39 rfl (infoPf_len HXO.out) ?_; go_big_quiet_on; (try simp only [Act.put, List.setIfInBounds_toArray, List.set_cons_zero, List.set_cons_succ]))
              | ((with_reducible refine quiet_gate (N := 24) rfl ?_); refine quietIn_load_mid 39 (.tmp 23) rfl G3 (pre.length * 19) rfl (lP y.1.p) _ (fun w h => rangeAt_drewN (part_pf HRY.out) h) Try.underlying39 rfl (infoPf_len HYO.out) ?_; go_big_quiet_on; (try simp only [Act.put, List.setIfInBounds_toArray, List.set_cons_zero, List.set_cons_succ]))
              | ((with_reducible refine quiet_gate (N := 25) rfl ?_); refine quietIn_neq (r := true) (b := false) 39 39 (.tmp 19) (.tmp 24) (eP x.1.p) (eP y.1.p) rfl rfl rfl rfl (by kernel_rfl) (fun w _ => HEQ.out w) ?_; go_big_quiet_on; (try simp only [Act.put, List.setIfInBounds_toArray, List.set_cons_zero, List.set_cons_succ]))
              | (gi_big_quiet_op; go_big_quiet_on)))
        refine wpQuietIn_nil ?_
        rintro _ ⟨nq, rfl⟩
        gi_wp2
        rw [show wrap64 ((pre.length : Int) + 1) = ((pre.length + 1 : Nat) : Int) from wrap_up6 _ (by have := HN3.out; have := HLL.out; have := HN.out; omega)]
        have hlk2 := lk_count (lk_below HLK.out (below_drewN' (Below.refl _ _) nq)) (by omega) (by omega) (by omega) (pre.length + 1)
        refine ⟨((keeps_drewN W nq).trans (KeepsOthers.setCell _ _ _)).from _, ?_, HPN.out.2 HXY.out, ?_⟩
        · exact kpg_cell (show G ≠ w2.heap.size by have := HG.out; omega)
        · rw [show (pre ++ [x]).length = pre.length + 1 by simp]
          exact hlk2
      · have hvv : (x.1.v == y.1.v) = false := beq_eq_false_iff_ne.2 hv
        have HNE := Aside0.mk (show x ≠ y from fun e => hv (by rw [e]))
        clear hp hv
        gi_wp2
        refine wpIn_region_quiet_round l' rfl (by kernel_rfl) (by kernel_rfl) (by kernel_rfl) (C := fun w' => ∃ nq, w' = W.drewN nq) ⟨1, rfl⟩ ?_
        repeat (first
          | gi_big_quiet_skip
          | (gi_big_quiet_want; first
              | ((with_reducible refine quiet_gate (N := 19) rfl ?_); refine quietIn_load_mid 39 (.tmp 18) rfl Bx 0 rfl (lP x.1.p) _ (fun w h => rangeAt_drewN (part_pf HRX.out) h) Try.underlying39 rfl (infoPf_len HXO.out) ?_; go_big_quiet_on; (try simp only [Act.put, List.setIfInBounds_toArray, List.set_cons_zero, List.set_cons_succ]))
              | ((with_reducible refine quiet_gate (N := 24) rfl ?_); refine quietIn_load_mid 39 (.tmp 23) rfl G3 (pre.length * 19) rfl (lP y.1.p) _ (fun w h => rangeAt_drewN (part_pf HRY.out) h) Try.underlying39 rfl (infoPf_len HYO.out) ?_; go_big_quiet_on; (try simp only [Act.put, List.setIfInBounds_toArray, List.set_cons_zero, List.set_cons_succ]))
              | ((with_reducible refine quiet_gate (N := 25) rfl ?_); refine quietIn_neq (r := true) (b := false) 39 39 (.tmp 19) (.tmp 24) (eP x.1.p) (eP y.1.p) rfl rfl rfl rfl (by kernel_rfl) (fun w _ => HEQ.out w) ?_; go_big_quiet_on; (try simp only [Act.put, List.setIfInBounds_toArray, List.set_cons_zero, List.set_cons_succ]))
              | (gi_big_quiet_op; go_big_quiet_on)))
        refine wpQuietIn_nil ?_
        rintro _ ⟨nq, rfl⟩
        gi_wp2
        refine ⟨((keeps_drewN W nq).trans (KeepsOthers.setCell _ _ _)).from _, ?_⟩
        exact fun h => HNE.out (HPN.out.1 h)
    · rw [decide_eq_false hp] at HEQ
      have HNE := Aside0.mk (show x ≠ y from fun e => hp (by rw [e]))
      clear hp
      gi_wp2
      refine wpIn_region_quiet_round l' rfl (by kernel_rfl) (by kernel_rfl) (by kernel_rfl) (C := fun w' => ∃ nq, w' = W.drewN nq) ⟨1, rfl⟩ ?_
      repeat (first
        | gi_big_quiet_skip
        | (gi_big_quiet_want; first
            | ((with_reducible refine quiet_gate (N := 19) rfl ?_); refine quietIn_load_mid 39 (.tmp 18) rfl Bx 0 rfl (lP x.1.p) _ (fun w h => rangeAt_drewN (part_pf HRX.out) h) Try.underlying39 rfl (infoPf_len HXO.out) ?_; go_big_quiet_on; (try simp only [Act.put, List.setIfInBounds_toArray, List.set_cons_zero, List.set_cons_succ]))
            | ((with_reducible refine quiet_gate (N := 24) rfl ?_); refine quietIn_load_mid 39 (.tmp 23) rfl G3 (pre.length * 19) rfl (lP y.1.p) _ (fun w h => rangeAt_drewN (part_pf HRY.out) h) Try.underlying39 rfl (infoPf_len HYO.out) ?_; go_big_quiet_on; (try simp only [Act.put, List.setIfInBounds_toArray, List.set_cons_zero, List.set_cons_succ]))
            | ((with_reducible refine quiet_gate (N := 25) rfl ?_); refine quietIn_neq (r := false) (b := true) 39 39 (.tmp 19) (.tmp 24) (eP x.1.p) (eP y.1.p) rfl rfl rfl rfl (by kernel_rfl) (fun w _ => HEQ.out w) ?_; go_big_quiet_on; (try simp only [Act.put, List.setIfInBounds_toArray, List.set_cons_zero, List.set_cons_succ]))
            | (gi_big_quiet_op; go_big_quiet_on)))
      refine wpQuietIn_nil ?_
      rintro _ ⟨nq, rfl⟩
      gi_wp2
      refine ⟨((keeps_drewN W nq).trans (KeepsOthers.setCell _ _ _)).from _, ?_⟩
      exact fun h => HNE.out (HPN.out.1 h)
  case done =>
    rintro D ys W hD rfl ⟨hpl, hlk⟩ hK
    have c3 := hlk.b3.cell
    have c4 := hlk.b4.cell
    have c6 := hlk.b6.cell
    have f4 := hlk.b4.frozen
    have d0 : decide ((ys.length : Int) = (l.length : Int)) = true := decide_eq_true (by have := HLL.out; omega)
    have mix : Try.prog.follows .mixedOrders = true := by kernel_rfl
    gi_wp2
    have HLK := Aside0.mk hlk
    clear hlk
    refine wpIn_calm ?_
    gi_region_with (first
      | (refine ⟨trivial, ?_⟩; gi_at_call 22; refine (callsIn_wide.2 (table_Len T base st sv l W.drew (tb_below HLK.out.tb (bel_later (Below.refl _ _))))).mono ?_; rintro e w5 ⟨rfl, hb⟩; have h5 := lk_below HLK.out (bel_first hb); have e6 := h5.b6.cell; have e4 := h5.b4.cell; have ef4 := h5.b4.frozen))
    all_goals
      (simp only [calmQ]
       gi_wp2)
    all_goals
      have hK' : (w5.setCell ⟨w.heap.size + 1, 0, none⟩ (.bool true)).heap[D]? = some (.deferred (some [])) := (Below.heap_setCell w5 ⟨w.heap.size + 1, 0, none⟩ (.bool true) D (by show D ≠ w.heap.size + 1; omega)).trans (blk_below (w := W) hK (bel_first hb))
      refine ⟨by simp, .inl ⟨_, _, rfl, run_takeDeferred hK', ?_⟩⟩
      exact ⟨_, results_bool rfl _ _ (w.heap.size + 1) rfl (cells_kept (box_here h5.b4) (grown_put _ D _) (fun r e => by cases e; exact ⟨_, hK', rfl⟩)), rfl, (below_cell h5.bel (Nat.le_succ _)).trans (belowK_b (w := w) (Nat.le_refl _) _ D _ _ (by omega) hK' rfl rfl)⟩
  case stop =>
    rintro D c pre W _ hp h _
    exact (h hp).elim
end Go.Proofs.Ythjhbhgfckaklaa.P
