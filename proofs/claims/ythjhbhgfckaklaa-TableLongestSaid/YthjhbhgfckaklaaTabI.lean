/-
  A table of entries.
-/
import Derived.Test.YthjhbhgfckaklaaTabH
namespace Go.Proofs.Ythjhbhgfckaklaa.P
open Go.RowKit Go.Shelf Go.Proofs.YthjhbhgfckaklaaW.PrintWords Go.Proofs.YthjhbhgfckaklaaW.PrintLast Go.Proofs.YthjhbhgfckaklaaW.PrintMore
set_option linter.unusedVariables false
set_option linter.unusedSimpArgs false
attribute [local go_sem] Oper.semAt_some
theorem vals_stops {α : Type} (val : α → En) (hok : ∀ x, (val x).p.a.ok) (n : Nat) (hn : 1 ≤ n) (Bs : Nat) (A : Option Addr) (cap G : Nat) (L : List α) (hm : L.length ≤ 1000000) (W0 : World) (hBs : Boxed W0 Bs 50 (.slice A L.length cap)) (hrd : Rd W0 50 A L.length cap G (L.map val)) (hG : G < W0.heap.size) :
    SeqStopsK Fence.wide n Try.prog 67 #[.pointer (some ⟨Bs, 0, none⟩)] (encE val) (KpG G) (fun ys => ys = L) (fun pre => pre <+: L) L.length W0 :=
  fun l J Jx W hW hJ _ hY h0 => vals1_in val hok n hn l Bs A cap G L hm J Jx (fun pre x W hj hp => hY pre x W hj (by have := hp.length_le; simp at this; omega)) W hJ ((hW.cell (p := ⟨Bs, 0, none⟩) hBs.lt).trans hBs.cell) (rd_blk hrd (hW.block G hG)) (Nat.lt_of_lt_of_le hG hW.size) h0
theorem kpg_t {G : Nat} {A B C : World} (h : KpG G A B) (k : KpG G B C) : KpG G A C := ⟨Nat.le_trans h.1 k.1, k.2.trans h.2⟩
theorem kpg_b {G n : Nat} (h0 : G < n) (W : World) (l : Nat) (o o' : Obj) (hl : n ≤ l) (ho : W.heap[l]? = some o) (h1 : o.isCells = false) (h2 : o.isWalk = false) : KpG G W (W.putObj l o') :=
  ⟨by unfold World.putObj; simp, World.putObj_heap_other (by omega)⟩
theorem kpg_below {G n : Nat} {W W' : World} (h : Below n W W') (hG : G < n) : KpG G W W' := ⟨h.size, h.block G hG⟩
theorem cells_kept {W W' : World} {row : Option Nat} {B : Nat} {cs : Array Value} {t : TypeId} (h : W.heap[B]? = some (.cells cs t (0, 0))) (hg : W.grownBy W' row) (hr : ∀ r, row = some r → ∃ o : Obj, W.heap[r]? = some o ∧ o.isCells = false) : W'.heap[B]? = some (.cells cs t (0, 0)) :=
  (hg.block B (Array.getElem?_eq_some_iff.1 h).1 (fun e => by obtain ⟨o, ho, hc⟩ := hr B e.symm; rw [h] at ho; cases ho; cases hc)).trans h
theorem own_kept {W W' : World} {row : Option Nat} {base n : Nat} {te : TypeId} {sz : Nat} {v : Value} {xs : List Value} (h : W.ownsRow base te sz v n xs) (hg : W.grownBy W' row) (hr : ∀ r, row = some r → ∃ o : Obj, W.heap[r]? = some o ∧ o.isCells = false) : W'.ownsRow base te sz v n xs := by
  refine h.kept hg ?_
  rcases h.2 with ⟨rfl, _⟩ | ⟨g, cap, cur, rfl, hb, hgg, _⟩
  · exact .inl rfl
  · refine .inr (fun e => ?_)
    obtain ⟨o, ho, hc⟩ := hr g e.symm
    rw [hgg] at ho
    cases ho
    cases hc
theorem tb_kept {W W' : World} {row : Option Nat} {T base : Nat} {st : Int} {v : Value} {l : List En} (h : Tb W T base st v l) (hg : W.grownBy W' row) (hr : ∀ r, row = some r → ∃ o : Obj, W.heap[r]? = some o ∧ o.isCells = false) : Tb W' T base st v l :=
  ⟨cells_kept h.blk hg hr, own_kept h.row hg hr, h.ok⟩
theorem tb_ownFrom {β : Type} (B T base : Nat) (st : Int) (f : β → List En) : OwnFrom B (fun (s : β) W => ∃ sv, Tb W T base st sv (f s)) := fun s W W' row hs hg hr => by
  obtain ⟨sv, ht⟩ := hs
  exact ⟨sv, tb_kept ht hg (fun r e => (hr r e).2)⟩
theorem grown_put (W : World) (D : Nat) (o : Obj) : W.grownBy (W.putObj D o) (some D) := ⟨rfl, rfl, rfl, by unfold World.putObj; simp, fun k _ hk => World.putObj_heap_other (fun e => hk (by rw [e]))⟩
theorem notEn_nc {o : Obj} (h : o.isCells = false) : notEn o := fun cs fr e => by subst e; cases h
theorem chg_keeps {T base : Nat} {W W' : World} {cs : Array Value} {t : TypeId} (hT : W.heap[T]? = some (.cells cs t (0, 0))) (h : Chg T base W W') : KeepsOthers W W' :=
  ⟨h.size, fun k o hk ho => h.block k o (fun e => by subst e; rw [hT] at hk; cases hk; cases ho) hk (.inr (notEn_nc ho))⟩
theorem chg_below' {T base : Nat} {W W' : World} (h : Chg T base W W') (hT : base ≤ T) (hb : base ≤ W.heap.size) : Below base W W' :=
  ⟨h.os, h.tape, h.output, h.size, fun k hk => by
    obtain ⟨o, ho⟩ : ∃ o, W.heap[k]? = some o := ⟨W.heap[k]'(by omega), Array.getElem?_eq_getElem _⟩
    rw [ho]
    exact h.block k o (by omega) ho (.inl hk)⟩
/-! ### the entries, one set behind the other -/
def setIf (l : List En) (e : En) : List En := if mayQ e.p = true then setE l e.p e.v else l
def newE (l xs : List En) : List En := xs.foldl setIf l
theorem newE_snoc (l xs : List En) (x : En) : newE l (xs ++ [x]) = setIf (newE l xs) x := by unfold newE; rw [List.foldl_append]; rfl
theorem setE_length (l : List En) (p : Pf) (v : Int) : (setE l p v).length ≤ l.length + 1 := by
  unfold setE ltE gtE
  rw [List.length_append, List.length_cons]
  have h : ∀ l : List En, (l.filter fun e => decide (cmpP e.p p < 0)).length + (l.filter fun e => decide (0 < cmpP e.p p)).length ≤ l.length := by
    intro l
    induction l with
    | nil => exact Nat.le_refl _
    | cons e l ih =>
      rw [List.filter_cons, List.filter_cons]
      by_cases h1 : cmpP e.p p < 0
      · rw [if_pos (decide_eq_true h1), if_neg (by rw [decide_eq_true_eq]; omega), List.length_cons, List.length_cons]; omega
      · rw [if_neg (by rw [decide_eq_true_eq]; exact h1)]
        split <;> simp only [List.length_cons] <;> omega
  have := h l
  omega
theorem setIf_facts {l : List En} (hl : okE l) (hs : Sorted l) {e : En} (he : e.p.a.ok) : okE (setIf l e) ∧ Sorted (setIf l e) ∧ (setIf l e).length ≤ l.length + 1 := by
  unfold setIf
  split
  · exact ⟨ok_setE hl he _, sorted_setE hl hs he _, setE_length _ _ _⟩
  · exact ⟨hl, hs, Nat.le_succ _⟩
theorem newE_facts : ∀ (xs : List En), okE xs → ∀ l, okE l → Sorted l → okE (newE l xs) ∧ Sorted (newE l xs) ∧ (newE l xs).length ≤ l.length + xs.length
  | [], _, l, hl, hs => ⟨hl, hs, Nat.le_refl _⟩
  | e :: xs, hx, l, hl, hs => by
    obtain ⟨h1, h2, h3⟩ := setIf_facts hl hs (hx e (List.mem_cons_self ..))
    obtain ⟨k1, k2, k3⟩ := newE_facts xs (fun x h => hx x (List.mem_cons_of_mem _ h)) (setIf l e) h1 h2
    refine ⟨k1, k2, ?_⟩
    show (newE (setIf l e) xs).length ≤ _
    rw [List.length_cons]
    omega
theorem ok_enE (L : List Eo) : okE (enE L) := fun e he => by
  obtain ⟨x, _, rfl⟩ := List.mem_map.1 he
  exact x.2
theorem range_pfx {w : World} {g : Nat} {t : TypeId} {e : En} (hg : w.heap[g]? = some (.cells (eE e) t (0, 0))) : w.rangeAt g 0 (lP e.p) := part_pf (range_row (xs := lE e) hg)
theorem infoPf_len {p : Pf} (h : p.a.ok) : (Try.prog.info? 39).map (·.size) = some (lP p).length := by rw [lP_len h]; exact infoP
theorem assign_one (t : Array Value) (p : Tmp) (v : Value) : (#[p].zip #[v]).foldl (fun t (x : Tmp × Value) => t.setIfInBounds x.1 x.2) t = t.setIfInBounds p v := by simp
theorem table_Set_er (T base : Nat) (st : Int) (sv : Value) (l : List En) (e : En) (hp : e.p.a.ok) (w : World) (ht : Tb w T base st sv l) (hs : Sorted l) (hn : l.length ≤ 1000) (hb0 : base ≤ w.heap.size) :
    Calls Try.prog 21 #[.pointer (some ⟨T, 0, none⟩), .agg (eP e.p), .int .i64 e.v] w fun r w' => ∃ er : Int, r = .returned (.int .i64 er) ∧ Aside0 (∃ sv', Tb w' T base st sv' (setIf l e)) ∧ Aside0 (Chg T base w w') :=
  (table_Set T base st sv l e.p hp e.v w ht hs hn hb0).mono fun r w' ⟨h1, h2, h3⟩ => ⟨_, h1, ⟨h2⟩, ⟨h3⟩⟩
set_option maxRecDepth 100000 in
set_option maxHeartbeats 4000000 in
theorem table_New' (A : Option Addr) (cap G : Nat) (L : List Eo) (hm : L.length ≤ 900) (w : World) (hrd : Rd w 50 A L.length cap G (enE L)) (hG : G < w.heap.size ∨ (L.length = 0 ∧ G = w.heap.size)) :
    Calls Try.prog 18 #[.slice A L.length cap] w fun r w' => r = .returned (.pointer (some ⟨w.heap.size, 0, none⟩)) ∧ (∃ sv, Tb w' w.heap.size w.heap.size 0 sv (newE [] (enE L))) ∧ Below w.heap.size w w' := by
  have HM := Aside0.mk hm
  have HRD := Aside0.mk hrd
  have HG := Aside0.mk hG
  clear hm hrd hG
  refine (callsIn_wide (n := 9)).1 ?_
  refine callsIn_of_wp_marks Try.func18 rfl trivial ?_ rfl
  simp only [Try.ntmps18, List.size_toArray, List.length_cons, List.length_nil, Nat.reduceAdd, Nat.reduceSub, Array.replicate_succ, Array.replicate_zero, List.push_toArray, List.append_toArray, List.nil_append, List.cons_append]
  gi_wp2_with (refine ⟨trivial, ?_⟩; gi_at_call 42; refine (values_in _ _ _ _ _).mono ?_; rintro e w' ⟨rfl, rfl⟩)
  have bT : (((w.alloc (.cells #[.slice none 0 0, .int .i64 0] 90)).alloc (.cells #[.pointer (some ⟨w.heap.size, 0, none⟩)] 36)).alloc (.cells #[.slice A L.length cap] 50)).heap[w.heap.size]? = some (.cells #[.slice none 0 0, .int .i64 0] 90 (0, 0)) :=
    (Below.heap_alloc _ _ _ (by simp; omega)).trans ((Below.heap_alloc _ _ _ (by simp)).trans (World.alloc_heap_new w _))
  have bP := (Boxed.new (w.alloc (.cells #[.slice none 0 0, .int .i64 0] 90)) 36 (.pointer (some ⟨w.heap.size, 0, none⟩))).alloc (.cells #[.slice A L.length cap] 50)
  have bL := Boxed.new ((w.alloc (.cells #[.slice none 0 0, .int .i64 0] 90)).alloc (.cells #[.pointer (some ⟨w.heap.size, 0, none⟩)] 36)) 50 (.slice A L.length cap)
  simp only [World.size_alloc] at bP bL
  have hB0 : Below w.heap.size w (((w.alloc (.cells #[.slice none 0 0, .int .i64 0] 90)).alloc (.cells #[.pointer (some ⟨w.heap.size, 0, none⟩)] 36)).alloc (.cells #[.slice A L.length cap] 50)) := (((Below.refl _ w).alloc (Nat.le_refl _) _).alloc (by simp) _).alloc (by simp; omega) _
  have hsz : (((w.alloc (.cells #[.slice none 0 0, .int .i64 0] 90)).alloc (.cells #[.pointer (some ⟨w.heap.size, 0, none⟩)] 36)).alloc (.cells #[.slice A L.length cap] 50)).heap.size = w.heap.size + 3 := by simp
  obtain ⟨W0, hW0⟩ : ∃ W0, (((w.alloc (.cells #[.slice none 0 0, .int .i64 0] 90)).alloc (.cells #[.pointer (some ⟨w.heap.size, 0, none⟩)] 36)).alloc (.cells #[.slice A L.length cap] 50)) = W0 := ⟨_, rfl⟩
  rw [hW0] at bT bP bL hB0 hsz ⊢
  clear hW0
  have hr0 : Rd W0 50 A L.length cap G (enE L) := by
    rcases HG.out with h | ⟨h, _⟩
    · exact rd_blk HRD.out (hB0.block G h)
    · have hr := HRD.out
      have hle : (enE L).length = 0 := hr.len.trans h
      exact ⟨hr.len, hr.idx, fun i e he => by rw [List.length_eq_zero_iff.1 hle] at he; cases he⟩
  have hgl : G ≤ w.heap.size := by
    rcases HG.out with h | ⟨_, h⟩ <;> omega
  have hn0 := HM.out
  refine wpIn_rangeFunc_ownH rfl (by omega) (gf := 67) (lb := #[.pointer (some ⟨w.heap.size + 1 + 1, 0, none⟩)]) rfl trivial (enters_of Try.func67 (by kernel_rfl) rfl)
    (vals_stops (fun x : Eo => x.1) (fun x => x.2) _ (by omega) (w.heap.size + 1 + 1) A cap G L (by omega) W0 bL hr0 (by omega)) kpg_t (kpg_b (by omega)) (Below.refl _ _) (fun _ => rfl)
    (fun pre W => (∃ sv, Tb W w.heap.size w.heap.size 0 sv (newE [] (enE pre))) ∧ (Boxed W (w.heap.size + 1) 36 (.pointer (some ⟨w.heap.size, 0, none⟩)) ∧ Below w.heap.size w W))
    (fun _ _ _ => False)
    (OwnFrom.and (tb_ownFrom _ _ _ _ _) (OwnFrom.and (Own.from (boxed_own _ _ _) _) (ownFrom_below (Nat.le_refl _) (by omega))))
    (fun _ _ _ _ _ hs _ _ => hs)
    ⟨⟨.slice none 0 0, ⟨bT, World.ownsRow_nil _ _ _ _, fun e he => by cases he⟩⟩, bP, hB0⟩
    (fun x a' W => ∃ Bx, w.heap.size + 1 < Bx ∧ W.heap[Bx]? = some (.cells (eE x.1) 42 (0, 0)) ∧ a' = { tmps := #[.slice A L.length cap, undef, .pointer none, .pointer (some ⟨w.heap.size + 1, 0, none⟩), .pointer (some ⟨Bx, 0, none⟩), .agg #[.slice none 0 0, .int .i64 0], .pointer (some ⟨w.heap.size, 0, none⟩), .slice A L.length cap, .func (.func 67) #[] #[.pointer (some ⟨w.heap.size + 1 + 1, 0, none⟩)], .agg (eE x.1), undef, undef, undef, undef, undef, undef, undef], defers := [] })
    (fun x a' _ X Y row hs hg hr => by obtain ⟨Bx, h1, h2, h3⟩ := hs; exact ⟨Bx, h1, cells_kept h2 hg (fun r e => (hr r e).2), h3⟩)
    ?assign ?body ?done ?stop
  case assign =>
    rintro l pre x W K ⟨⟨sv, hT⟩, hP, hB1⟩ hK
    have hltT := (Array.getElem?_eq_some_iff.1 hT.blk).1
    dsimp only [encE]
    have HTT := Aside0.mk hT
    have HPP := Aside0.mk hP
    have HBB := Aside0.mk hB1
    have HGW := Aside0.mk (Nat.lt_of_le_of_lt hgl hltT)
    have HP1 := Aside0.mk hP.lt
    clear hT hP hB1
    rw [assign_one]
    simp only [List.setIfInBounds_toArray, List.set_cons_zero, List.set_cons_succ]
    gi_wp2_with (first
      | ((with_reducible refine in_gate (N := 4) rfl ?_); refine in_new rfl (N := 4) rfl (fun f hf => by simp [Oper.about] at hf) (fun c hc => by cases hc) (cs := eE noE) (t := 42) ?hr ?_; (case hr => first | (go_simp; done) | (go_simp; rfl)); intro g4 hg4 w1 hbox hb; have HBX := Aside0.mk hbox; have HB1 := Aside0.mk hb; have HG4 := Aside0.mk hg4; clear hbox hb hg4)
      | ((with_reducible refine in_gate_store (p := 4) rfl ?_); refine in_store_row rfl 42 (.tmp 4) (.tmp 9) rfl g4 (eE x.1) rfl rfl 42 (eE noE) HBX.out (infoEE x.2) ((by rfl : (eE noE).size = 19).trans (eE_size x.2).symm) (eE_one x.1) ?_
         have HX := Aside0.mk (row_new (cells := eE x.1) HBX.out)
         have HB2 := Aside0.mk (below_row HB1.out (Nat.le_of_eq HG4.out.symm) (eE x.1))
         generalize w1.setRow g4 (eE x.1) = w2 at HX HB2 ⊢))
    have hb2 := HB2.out
    exact hK _ _ (KeepsOthers.from ⟨hb2.size, fun k o hk _ => blk_below hk hb2⟩ _) (kpg_below hb2 HGW.out) ⟨⟨sv, tb_below HTT.out hb2⟩, blk_below HPP.out hb2, HBB.out.trans (hb2.mono HBB.out.size)⟩ ⟨g4, by have := HG4.out; have := HP1.out; omega, HX.out, rfl⟩
  case body =>
    rintro l pre x a' W hl hrl ⟨⟨sv, hT⟩, hP, hB1⟩ ⟨Bx, hBx, bX, rfl⟩ hlt
    have hc1 := hP.cell
    have hcv : W.cell? ⟨Bx, 18, none⟩ = some (.int .i64 x.1.v) := by
      have := part_v x.2 (range_row (xs := lE x.1) bX)
      rw [Nat.zero_add] at this
      exact this
    have HRP := Aside0.mk (range_pfx bX)
    obtain ⟨hk1, hk2, hk3⟩ := newE_facts (enE pre) (ok_enE pre) [] (fun e he => by cases he) List.Pairwise.nil
    have hk4 : (newE [] (enE pre)).length ≤ 1000 := by
      rw [List.length_nil, show (enE pre).length = pre.length from List.length_map ..] at hk3
      omega
    have HTT := Aside0.mk hT
    have HPP := Aside0.mk hP
    have HBB := Aside0.mk hB1
    have HS := Aside0.mk hk2
    have HN := Aside0.mk hk4
    have HSN := Aside0.mk (show setIf (newE [] (enE pre)) x.1 = newE [] (enE (pre ++ [x])) by rw [show enE (pre ++ [x]) = enE pre ++ [x.1] from List.map_append ..]; exact (newE_snoc [] (enE pre) x.1).symm)
    clear hT hP hB1 hk1 hk2 hk3 hk4 bX
    gi_wp2_with (first
      | ((with_reducible refine in_gate (N := 12) rfl ?_); refine in_load_mid rfl 39 (.tmp 11) rfl Bx 0 rfl (lP x.1.p) _ HRP.out Try.underlying39 rfl (infoPf_len x.2) ?_)
      | (refine ⟨trivial, ?_⟩; gi_at_call 21; refine (CallsIn.inRound l (callsIn_wide.2 (table_Set_er w.heap.size w.heap.size 0 sv _ x.1 x.2 W HTT.out HS.out HN.out (HBB.out.size)))).mono ?_; rintro e w2 ⟨er, rfl, HT2, HCH⟩))
    obtain ⟨sv2, ht2⟩ := HT2.out
    rw [HSN.out] at ht2
    have hch := HCH.out
    have hbw := chg_below' hch (Nat.le_refl _) HBB.out.size
    have hgl2 : G < w.heap.size := by
      rcases HG.out with h | ⟨h, _⟩
      · exact h
      · rw [h] at hlt; exact absurd hlt (Nat.not_lt_zero _)
    exact ⟨(chg_keeps HTT.out.blk hch).from _, kpg_below hbw hgl2, ⟨sv2, ht2⟩, hch.block _ _ (by omega) HPP.out (.inr (fun cs fr e => by cases e)), HBB.out.trans hbw⟩
  case done =>
    rintro D ys W hD rfl ⟨⟨sv, hT⟩, hP, hB1⟩ hK
    have hc1 := hP.cell
    gi_wp2
    refine ⟨by simp, .inl ⟨_, _, rfl, run_takeDeferred hK, ?_⟩⟩
    exact ⟨_, results_tmp rfl _ _ _, rfl, ⟨sv, tb_kept hT (grown_put W D _) (fun r e => by cases e; exact ⟨_, hK, rfl⟩)⟩, hB1.trans (belowK_b (w := w) (Nat.le_refl _) W D _ _ (by omega) hK rfl rfl)⟩
  case stop =>
    rintro D c pre W _ _ h _
    exact h.elim
theorem table_New (A : Option Addr) (cap G : Nat) (L : List Eo) (hm : L.length ≤ 900) (w : World) (hrd : Rd w 50 A L.length cap G (enE L)) (hG : G < w.heap.size) :
    Calls Try.prog 18 #[.slice A L.length cap] w fun r w' => r = .returned (.pointer (some ⟨w.heap.size, 0, none⟩)) ∧ (∃ sv, Tb w' w.heap.size w.heap.size 0 sv (newE [] (enE L))) ∧ Below w.heap.size w w' := table_New' A cap G L hm w hrd (.inl hG)
theorem new_none (w : World) : Calls Try.prog 18 #[.slice none 0 0] w fun r w' => r = .returned (.pointer (some ⟨w.heap.size, 0, none⟩)) ∧ (∃ sv, Tb w' w.heap.size w.heap.size 0 sv []) ∧ Below w.heap.size w w' :=
  table_New' none 0 w.heap.size [] (by decide) w ⟨rfl, fun w i hi => absurd hi (Nat.not_lt_zero _), fun i e he => by cases he⟩ (.inr ⟨rfl, rfl⟩)
end Go.Proofs.Ythjhbhgfckaklaa.P
