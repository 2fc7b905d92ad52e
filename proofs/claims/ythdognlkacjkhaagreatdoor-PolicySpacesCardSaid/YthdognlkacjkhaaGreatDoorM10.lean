/-
  Texts of the proof, put together.
-/
import Derived.RangeFuncNested
import Derived.RangeFuncBound
import Derived.RangeFuncCalls
import Derived.RangeFuncLeaves
import Derived.Shelf.Abstract
import Derived.WalkKit
import Derived.OwnWalkIn
import Derived.TacticsInMore
import Derived.LoopNIn
import Derived.LoopIn
import Derived.Test.YthdognlkacjkhaaGreatDoorM8
section
namespace Go.Proofs.YthdognlkacjkhaaGreatDoor.P
open Go.RowKit Go.Shelf Go.Proofs.YthdognlkacjkhaaGreatDoorW.PrintWords Go.Proofs.YthdognlkacjkhaaGreatDoorW.PrintLast Go.Proofs.YthdognlkacjkhaaGreatDoorW.PrintMore
set_option linter.unusedVariables false
set_option linter.unusedSimpArgs false
attribute [local go_sem] Oper.semAt_some
/-! ### operations of a region inside a fence, by what they run to -/
section
variable {F : Fence} {n : Nat} {P : Program} {ops : Array Oper} {rest : List Oper} {o : Oper} {a : Act} {Q : Exit → Act → World → Prop} {W W1 : World}
theorem in_value {v : Value} (hg : o.guard = none) (ha : ∀ f, o.about P W a.eval = some f → F.fn f) (hd : ∀ c, o.op ≠ .defer c) (hrun : (execOp a.eval o).run P W = .ok (.value v) W1) (h : wpListIn F n P ops Q rest (a.put o.dst v) W1) : wpListIn F n P ops Q (o :: rest) a W := by
  refine wpListIn_plain hg fun K hK => ?_
  unfold Oper.wpIn
  refine ⟨ha, ?_⟩
  rw [Oper.semAt_plain F _ _ hd, hrun]
  exact hK _ _ h
theorem in_skip (hg : o.guard = none) (ha : ∀ f, o.about P W a.eval = some f → F.fn f) (hd : ∀ c, o.op ≠ .defer c) (hrun : (execOp a.eval o).run P W = .ok .skip W1) (h : wpListIn F n P ops Q rest (a.put o.dst undef) W1) : wpListIn F n P ops Q (o :: rest) a W := by
  refine wpListIn_plain hg fun K hK => ?_
  unfold Oper.wpIn
  refine ⟨ha, ?_⟩
  rw [Oper.semAt_plain F _ _ hd, hrun]
  exact hK _ _ h
theorem in_load_mid (hg : o.guard = none) (ty : TypeId) (x : Operand) (ho : o.op = .load ty x) (b f : Nat) (hx : a.eval x = .pointer (some ⟨b, f, none⟩)) (cs : List Value) (d : TypeDesc) (hc : W.rangeAt b f cs)
    (hu : P.underlying ty = some d) (hd : d.isRow = true) (hi : (P.info? ty).map (·.size) = some cs.length) (h : wpListIn F n P ops Q rest (a.put o.dst (.agg cs.toArray)) W) : wpListIn F n P ops Q (o :: rest) a W := by
  refine in_value hg (fun f hf => ?_) (by rw [ho]; intro c hc'; cases hc') (W1 := W) ?_ h
  · simp [Oper.about, ho] at hf
  · unfold execOp
    simp only [ho, hx, Instr.loadAt, Instr.sureAddr, Sem.run_bind, Sem.run_pure, Result.andThen_ok, run_loadVar_mid W b f ty cs d hc hu hd hi]
theorem in_store_row (hgd : o.guard = none) (ty : TypeId) (x y : Operand) (ho : o.op = .store ty x y) (g : Nat) (cells : Array Value) (hx : a.eval x = .pointer (some ⟨g, 0, none⟩)) (hy : a.eval y = .agg cells)
    (t : TypeId) (old : Array Value) (hg : W.heap[g]? = some (.cells old t (0, 0))) (hi : (P.info? ty).map (·.size) = some cells.size) (hold : old.size = cells.size) (h1 : cells.all (·.oneCell') = true)
    (h : wpListIn F n P ops Q rest (a.put o.dst undef) (W.setRow g cells)) : wpListIn F n P ops Q (o :: rest) a W := by
  refine in_skip hgd (fun f hf => ?_) (by rw [ho]; intro c hc'; cases hc') (W1 := W.setRow g cells) ?_ h
  · simp [Oper.about, ho] at hf
  · unfold execOp
    simp only [ho, hx, hy, Instr.storeAt, Instr.sureAddr, Sem.run_bind, Sem.run_pure, Result.andThen_ok, run_storeVar_row W g t ty old cells hg hi hold h1]
theorem in_new (hgd : o.guard = none) {N : Tmp} (_hd : o.dst = some N) (ha : ∀ f, o.about P W a.eval = some f → F.fn f) (hnd : ∀ c, o.op ≠ .defer c) {cs : Array Value} {t : TypeId}
    (hrun : (execOp a.eval o).run P W = .ok (.value (.pointer (some ⟨W.heap.size, 0, none⟩))) (W.alloc (.cells cs t (0, 0))))
    (h : ∀ g, g = W.heap.size → ∀ w1, w1.heap[g]? = some (.cells cs t (0, 0)) → Below W.heap.size W w1 → wpListIn F n P ops Q rest (a.put o.dst (.pointer (some ⟨g, 0, none⟩))) w1) : wpListIn F n P ops Q (o :: rest) a W :=
  in_value hgd ha hnd hrun (h _ rfl _ (World.alloc_heap_new W _) ((Below.refl _ _).alloc (Nat.le_refl _) _))
theorem in_gate {N : Tmp} (_hN : o.dst = some N) (h : wpListIn F n P ops Q (o :: rest) a W) : wpListIn F n P ops Q (o :: rest) a W := h
theorem in_gate_store {t : TypeId} {p : Tmp} {v : Operand} (_ho : o.op = .store t (.tmp p) v) (h : wpListIn F n P ops Q (o :: rest) a W) : wpListIn F n P ops Q (o :: rest) a W := h
end
theorem infoEn_len {e : En} (he : e.p.a.ok) : (Tryz.prog.info? 44).map (·.size) = some (lE e).length := by
  rw [infoEn, lE_len he]
/-! ### the iterator -/
abbrev Eo := {e : En // e.p.a.ok}
def encE {α : Type} (val : α → En) (x : α) : Array Value := #[.agg (eE (val x))]
def enE (L : List Eo) : List En := L.map (·.1)
/-- What a round that goes on keeps: the row that is read. -/
def KpG (G : Nat) (W W' : World) : Prop := W.heap.size ≤ W'.heap.size ∧ W'.heap[G]? = W.heap[G]?
theorem rd_blk {W W' : World} {ty : TypeId} {A : Option Addr} {n cap G : Nat} {l : List En} (h : Rd W ty A n cap G l) (hb : W'.heap[G]? = W.heap[G]?) : Rd W' ty A n cap G l :=
  ⟨h.len, h.idx, fun i e he j v hv => (World.cell?_of_block hb).trans (h.at_ i e he j v hv)⟩
theorem values_in (n : Nat) (A : Option Addr) (m c0 : Nat) (w : World) :
    CallsIn Fence.wide n Tryz.prog 61 #[.slice A m c0] w fun e w' =>
      e = .returned (.func (.func 93) #[] #[.pointer (some ⟨w.heap.size, 0, none⟩)]) ∧
      w' = w.alloc (.cells #[.slice A m c0] 23) := by
  refine callsIn_of_wp Tryz.func61 rfl trivial ?_ rfl
  simp only [Tryz.ntmps61, List.size_toArray, List.length_cons, List.length_nil, Nat.reduceAdd, Nat.reduceSub, Array.replicate_succ, Array.replicate_zero, List.push_toArray, List.append_toArray, List.nil_append, List.cons_append]
  gi_wp2
  go_ret
  exact ⟨by simp, rfl⟩
theorem measure_nextV (L i : Nat) (z : Int) (h : z = ((i + 1 : Nat) : Int)) (hlt : i < L) : L - (intOf (.int .i64 z)).toNat < L - (intOf (.int .i64 (i : Int))).toNat := by
  subst h
  show L - (((i + 1 : Nat) : Int)).toNat < L - ((i : Nat) : Int).toNat
  rw [Int.toNat_natCast, Int.toNat_natCast]
  omega
theorem abides_lower {β : Type} {B B' : Nat} {J : β → World → Prop} (h : AbidesFrom B J) (hb : B ≤ B') : AbidesFrom B' J := fun s W W' row hs hg hr => h s W W' row hs hg (fun r e => ⟨Nat.le_trans hb (hr r e).1, (hr r e).2⟩)
theorem wrap_nextV (i : Nat) (h : i < 9223372036854775807) : wrap64 ((i : Int) + 1) = ((i + 1 : Nat) : Int) := by unfold wrap64; omega
set_option maxRecDepth 100000 in
set_option maxHeartbeats 2000000 in
theorem vals1_in {α : Type} (val : α → En) (hok : ∀ x, (val x).p.a.ok) (n : Nat) (hn : 1 ≤ n) (l Bs : Nat) (A : Option Addr) (cap G : Nat) (L : List α) (hm : L.length ≤ 1000000) (J Jx : List α → World → Prop)
    (hY : ∀ pre x W, J pre W → pre ++ [x] <+: L → YieldAt Fence.wide (n - 1) Tryz.prog l (encE val x) W fun e W' =>
      (e = .returned (.bool true) ∧ J (pre ++ [x]) W' ∧ KpG G W W') ∨ (e = .returned (.bool false) ∧ Jx (pre ++ [x]) W'))
    (W : World) (hJ : AbidesFrom W.heap.size J) (hBs : W.cell? ⟨Bs, 0, none⟩ = some (.slice A L.length cap)) (hrd : Rd W 23 A L.length cap G (L.map val)) (hG : G < W.heap.size) (h0 : J [] W) :
    CallsIn Fence.wide n Tryz.prog 93 #[.func (.yield l) #[] #[], .pointer (some ⟨Bs, 0, none⟩)] W fun e W' => (∃ v, e = .returned v) ∧
      ((∃ ys, ys = L ∧ J ys W') ∨ (∃ pre, pre <+: L ∧ Jx pre W')) := by
  have HM := Aside0.mk hm
  have HY := Aside0.mk hY
  have HJ := Aside0.mk hJ
  have HRD := Aside0.mk hrd
  have HG := Aside0.mk hG
  have H0 := Aside0.mk h0
  clear hm hY hJ hrd hG h0
  refine callsIn_of_wp Tryz.func93 rfl trivial ?_ rfl
  simp only [Tryz.ntmps93, List.size_toArray, List.length_cons, List.length_nil, Nat.reduceAdd, Nat.reduceSub, Array.replicate_succ, Array.replicate_zero, List.push_toArray, List.append_toArray, List.nil_append, List.cons_append]
  gi_wp2
  gi_loopw [7] (fun v7 wr => ∃ (i : Nat), v7 = .int .i64 (i : Int) ∧ Aside0 (i ≤ L.length) ∧ Aside0 (J (L.take i) wr) ∧ Aside0 (KpG G W wr)) (fun v7 _ => L.length - (intOf v7).toNat)
  case atStart => exact ⟨0, rfl, ⟨Nat.zero_le _⟩, by rw [List.take_zero]; exact H0, ⟨Nat.le_refl _, rfl⟩⟩
  case round =>
    clear H0
    obtain ⟨i, rfl, HI, HJp, HK⟩ := hrel
    by_cases hlt : i < L.length
    · have c3b0 : decide ((i : Int) < (L.length : Int)) = true := decide_eq_true (by omega)
      obtain ⟨x, hx⟩ : ∃ x, L[i]? = some x := ⟨L[i], List.getElem?_eq_getElem hlt⟩
      have hxe : (L.map val)[i]? = some (val x) := by rw [List.getElem?_map, hx]; rfl
      have HIX := Aside0.mk (fun w => HRD.out.idx w i hlt)
      have HAT := Aside0.mk ((rd_blk HRD.out HK.out.2).at_ i (val x) hxe)
      have HSN := Aside0.mk (show L.take i ++ [x] = L.take (i + 1) by rw [List.take_add_one, hx]; rfl)
      have HPR := Aside0.mk (show L.take i ++ [x] <+: L by rw [HSN.out]; exact List.take_prefix _ _)
      have HLT := Aside0.mk hlt
      have HE1 := Aside0.mk (wrap_nextV i (by have := HM.out; omega))
      clear hx hxe
      have HGW := Aside0.mk (Nat.lt_of_lt_of_le HG.out HK.out.1)
      have HJW := Aside0.mk (abides_lower HJ.out HK.out.1)
      gi_wp2_with (first
        | ((with_reducible refine in_gate (N := 9) rfl ?_); refine in_value rfl (fun f hf => by simp [Oper.about] at hf) (fun c hc => by cases hc) (v := .pointer (some ⟨G, i * 19, none⟩)) (W1 := wr) ?hr ?_; (case hr => go_simp; rw [HIX.out]; rfl))
        | ((with_reducible refine in_gate (N := 10) rfl ?_); refine in_load_mid rfl 44 (.tmp 9) rfl G (i * 19) rfl (lE (val x)) _ HAT.out Tryz.underlying44 rfl (infoEn_len (hok x)) ?_)
        | ((with_reducible refine in_gate (N := 4) rfl ?_); refine in_new rfl (N := 4) rfl (fun f hf => by simp [Oper.about] at hf) (fun c hc => by cases hc) (cs := eE noE) (t := 44) ?hr ?_; (case hr => first | (go_simp; done) | (go_simp; rfl)); intro g4 hg4 w1 hbox hb; have HBX := Aside0.mk hbox; have HB1 := Aside0.mk hb; have HG4 := Aside0.mk hg4; clear hbox hb hg4)
        | ((with_reducible refine in_gate_store (p := 4) rfl ?_); refine in_store_row rfl 44 (.tmp 4) (.tmp 10) rfl g4 (eE (val x)) rfl rfl 44 (eE noE) HBX.out (infoEE (hok x)) ((by rfl : (eE noE).size = 19).trans (eE_size (hok x)).symm) (eE_one (val x)) ?_
           have HX := Aside0.mk (range_row (xs := lE (val x)) (setRow_heap w1 g4 (eE noE) (eE (val x)) 44 (0, 0) HBX.out))
           have HB2 := Aside0.mk (below_row HB1.out (Nat.le_of_eq HG4.out.symm) (eE (val x)))
           generalize w1.setRow g4 (eE (val x)) = w2 at HX HB2 ⊢
           have hg2 : wr.grownBy w2 none := ⟨HB2.out.os, HB2.out.tape, HB2.out.output, HB2.out.size, fun k hk _ => HB2.out.block k hk⟩
           have HJ2 := Aside0.mk (HJW.out (L.take i) wr w2 none HJp.out hg2 (fun r e => by cases e))
           have HK2 := Aside0.mk (show KpG G wr w2 from ⟨HB2.out.size, HB2.out.block G HGW.out⟩)
           obtain ⟨fn, tmps, assign, body, hy, hR⟩ := HY.out (L.take i) x w2 HJ2.out HPR.out
           dsimp only [encE, eE] at hy
           clear hg2)
        | ((with_reducible refine in_gate (N := 12) rfl ?_); refine in_load_mid rfl 44 (.tmp 4) rfl g4 0 rfl (lE (val x)) _ HX.out Tryz.underlying44 rfl (infoEn_len (hok x)) ?_)
        )
      refine hR.mono ?_
      rintro e W3 (⟨rfl, hJ3, hk3⟩ | ⟨rfl, hJx3⟩)
      · have HJ3 := Aside0.mk hJ3
        have HK3 := Aside0.mk hk3
        clear hJ3 hk3
        gi_wp2
        go_roundw
        case rel => exact ⟨i + 1, congrArg (Value.int .i64) HE1.out, ⟨HLT.out⟩, ⟨by rw [← HSN.out]; exact HJ3.out⟩, ⟨Nat.le_trans HK.out.1 (Nat.le_trans HK2.out.1 HK3.out.1), HK3.out.2.trans (HK2.out.2.trans HK.out.2)⟩⟩
        case measure => exact measure_nextV L.length i _ HE1.out hlt
      · gi_wp2
        refine bodyPost_ret (results_none rfl _ _ _) rfl ?_
        exact ⟨⟨_, rfl⟩, .inr ⟨_, HPR.out, hJx3⟩⟩
    · have c3b0 : decide ((i : Int) < (L.length : Int)) = false := decide_eq_false (by omega)
      have hr : L.take i = L := List.take_of_length_le (by omega)
      gi_wp2
      go_end0
      exact ⟨⟨_, rfl⟩, .inl ⟨L.take i, hr, HJp.out⟩⟩
theorem vals_stops {α : Type} (val : α → En) (hok : ∀ x, (val x).p.a.ok) (n : Nat) (hn : 1 ≤ n) (Bs : Nat) (A : Option Addr) (cap G : Nat) (L : List α) (hm : L.length ≤ 1000000) (W0 : World) (hBs : Boxed W0 Bs 23 (.slice A L.length cap)) (hrd : Rd W0 23 A L.length cap G (L.map val)) (hG : G < W0.heap.size) :
    SeqStopsK Fence.wide n Tryz.prog 93 #[.pointer (some ⟨Bs, 0, none⟩)] (encE val) (KpG G) (fun ys => ys = L) (fun pre => pre <+: L) L.length W0 :=
  fun l J Jx W hW hJ _ hY h0 => vals1_in val hok n hn l Bs A cap G L hm J Jx (fun pre x W hj hp => hY pre x W hj (by have := hp.length_le; simp at this; omega)) W hJ ((hW.cell (p := ⟨Bs, 0, none⟩) hBs.lt).trans hBs.cell) (rd_blk hrd (hW.block G hG)) (Nat.lt_of_lt_of_le hG hW.size) h0
theorem kpg_t {G : Nat} {A B C : World} (h : KpG G A B) (k : KpG G B C) : KpG G A C := ⟨Nat.le_trans h.1 k.1, k.2.trans h.2⟩
theorem kpg_b {G n : Nat} (h0 : G < n) (W : World) (l : Nat) (o o' : Obj) (hl : n ≤ l) (ho : W.heap[l]? = some o) (h1 : o.isCells = false) (h2 : o.isWalk = false) : KpG G W (W.putObj l o') :=
  ⟨by unfold World.putObj; simp, World.putObj_heap_other (by omega)⟩
theorem kpg_below {G n : Nat} {W W' : World} (h : Below n W W') (hG : G < n) : KpG G W W' := ⟨h.size, h.block G hG⟩
theorem cells_kept {W W' : World} {row : Option Nat} {B : Nat} {cs : Array Value} {t : TypeId} (h : W.heap[B]? = some (.cells cs t (0, 0))) (hg : W.grownBy W' row) (hr : ∀ r, row = some r → ∃ o : Obj, W.heap[r]? = some o ∧ o.isCells = false) : W'.heap[B]? = some (.cells cs t (0, 0)) :=
  (hg.block B (Array.getElem?_eq_some_iff.1 h).1 (fun e => by obtain ⟨o, ho, hc⟩ := hr B e.symm; rw [h] at ho; cases ho; cases hc)).trans h
theorem own_kept {W W' : World} {row : Option Nat} {base n : Nat} {te : TypeId} {sz : Nat} {v : Value} {xs : List Value} (h : W.ownsRow base te sz v n xs) (hg : W.grownBy W' row) (hr : ∀ r, row = some r → ∃ o : Obj, W.heap[r]? = some o ∧ o.isCells = false) : W'.ownsRow base te sz v n xs := by
  refine h.kept hg ?_
  rcases h.2 with ⟨rfl, _⟩ | ⟨g, cap, cur, rfl, hb, hgg, _⟩
  · exact .inl rfl
  · refine .inr (fun e => ?_)
    obtain ⟨o, ho, hc⟩ := hr g e.symm
    rw [hgg] at ho
    cases ho
    cases hc
theorem tb_kept {W W' : World} {row : Option Nat} {T base : Nat} {st : Int} {v : Value} {l : List En} (h : Tb W T base st v l) (hg : W.grownBy W' row) (hr : ∀ r, row = some r → ∃ o : Obj, W.heap[r]? = some o ∧ o.isCells = false) : Tb W' T base st v l :=
  ⟨cells_kept h.blk hg hr, own_kept h.row hg hr, h.ok⟩
theorem tb_ownFrom {β : Type} (B T base : Nat) (st : Int) (f : β → List En) : OwnFrom B (fun (s : β) W => ∃ sv, Tb W T base st sv (f s)) := fun s W W' row hs hg hr => by
  obtain ⟨sv, ht⟩ := hs
  exact ⟨sv, tb_kept ht hg (fun r e => (hr r e).2)⟩
theorem grown_put (W : World) (D : Nat) (o : Obj) : W.grownBy (W.putObj D o) (some D) := ⟨rfl, rfl, rfl, by unfold World.putObj; simp, fun k _ hk => World.putObj_heap_other (fun e => hk (by rw [e]))⟩
theorem notEn_nc {o : Obj} (h : o.isCells = false) : notEn o := fun cs fr e => by subst e; cases h
theorem chg_keeps {T base : Nat} {W W' : World} {cs : Array Value} {t : TypeId} (hT : W.heap[T]? = some (.cells cs t (0, 0))) (h : Chg T base W W') : KeepsOthers W W' :=
  ⟨h.size, fun k o hk ho => h.block k o (fun e => by subst e; rw [hT] at hk; cases hk; cases ho) hk (.inr (notEn_nc ho))⟩
theorem chg_below' {T base : Nat} {W W' : World} (h : Chg T base W W') (hT : base ≤ T) (hb : base ≤ W.heap.size) : Below base W W' :=
  ⟨h.os, h.tape, h.output, h.size, fun k hk => by
    obtain ⟨o, ho⟩ : ∃ o, W.heap[k]? = some o := ⟨W.heap[k]'(by omega), Array.getElem?_eq_getElem _⟩
    rw [ho]
    exact h.block k o (by omega) ho (.inl hk)⟩
/-! ### the entries, one set behind the other -/
def setIf (l : List En) (e : En) : List En := if mayQ e.p = true then setE l e.p e.v else l
def newE (l xs : List En) : List En := xs.foldl setIf l
theorem newE_snoc (l xs : List En) (x : En) : newE l (xs ++ [x]) = setIf (newE l xs) x := by unfold newE; rw [List.foldl_append]; rfl
theorem setE_length (l : List En) (p : Pf) (v : Int) : (setE l p v).length ≤ l.length + 1 := by
  unfold setE ltE gtE
  rw [List.length_append, List.length_cons]
  have h : ∀ l : List En, (l.filter fun e => decide (cmpP e.p p < 0)).length + (l.filter fun e => decide (0 < cmpP e.p p)).length ≤ l.length := by
    intro l
    induction l with
    | nil => exact Nat.le_refl _
    | cons e l ih =>
      rw [List.filter_cons, List.filter_cons]
      by_cases h1 : cmpP e.p p < 0
      · rw [if_pos (decide_eq_true h1), if_neg (by rw [decide_eq_true_eq]; omega), List.length_cons, List.length_cons]; omega
      · rw [if_neg (by rw [decide_eq_true_eq]; exact h1)]
        split <;> simp only [List.length_cons] <;> omega
  have := h l
  omega
theorem setIf_facts {l : List En} (hl : okE l) (hs : Sorted l) {e : En} (he : e.p.a.ok) : okE (setIf l e) ∧ Sorted (setIf l e) ∧ (setIf l e).length ≤ l.length + 1 := by
  unfold setIf
  split
  · exact ⟨ok_setE hl he _, sorted_setE hl hs he _, setE_length _ _ _⟩
  · exact ⟨hl, hs, Nat.le_succ _⟩
theorem newE_facts : ∀ (xs : List En), okE xs → ∀ l, okE l → Sorted l → okE (newE l xs) ∧ Sorted (newE l xs) ∧ (newE l xs).length ≤ l.length + xs.length
  | [], _, l, hl, hs => ⟨hl, hs, Nat.le_refl _⟩
  | e :: xs, hx, l, hl, hs => by
    obtain ⟨h1, h2, h3⟩ := setIf_facts hl hs (hx e (List.mem_cons_self ..))
    obtain ⟨k1, k2, k3⟩ := newE_facts xs (fun x h => hx x (List.mem_cons_of_mem _ h)) (setIf l e) h1 h2
    refine ⟨k1, k2, ?_⟩
    show (newE (setIf l e) xs).length ≤ _
    rw [List.length_cons]
    omega
theorem ok_enE (L : List Eo) : okE (enE L) := fun e he => by
  obtain ⟨x, _, rfl⟩ := List.mem_map.1 he
  exact x.2
theorem range_pfx {w : World} {g : Nat} {t : TypeId} {e : En} (hg : w.heap[g]? = some (.cells (eE e) t (0, 0))) : w.rangeAt g 0 (lP e.p) := part_pf (range_row (xs := lE e) hg)
theorem infoPf_len {p : Pf} (h : p.a.ok) : (Tryz.prog.info? 42).map (·.size) = some (lP p).length := by rw [lP_len h]; exact infoP
theorem assign_one (t : Array Value) (p : Tmp) (v : Value) : (#[p].zip #[v]).foldl (fun t (x : Tmp × Value) => t.setIfInBounds x.1 x.2) t = t.setIfInBounds p v := by simp
theorem table_Set_er (T base : Nat) (st : Int) (sv : Value) (l : List En) (e : En) (hp : e.p.a.ok) (w : World) (ht : Tb w T base st sv l) (hs : Sorted l) (hn : l.length ≤ 1000) (hb0 : base ≤ w.heap.size) :
    Calls Tryz.prog 25 #[.pointer (some ⟨T, 0, none⟩), .agg (eP e.p), .int .i64 e.v] w fun r w' => ∃ er : Int, r = .returned (.int .i64 er) ∧ Aside0 (∃ sv', Tb w' T base st sv' (setIf l e)) ∧ Aside0 (Chg T base w w') :=
  (table_Set T base st sv l e.p hp e.v w ht hs hn hb0).mono fun r w' ⟨h1, h2, h3⟩ => ⟨_, h1, ⟨h2⟩, ⟨h3⟩⟩
set_option maxRecDepth 100000 in
set_option maxHeartbeats 4000000 in
theorem table_New' (A : Option Addr) (cap G : Nat) (L : List Eo) (hm : L.length ≤ 900) (w : World) (hrd : Rd w 23 A L.length cap G (enE L)) (hG : G < w.heap.size ∨ (L.length = 0 ∧ G = w.heap.size)) :
    Calls Tryz.prog 35 #[.slice A L.length cap] w fun r w' => r = .returned (.pointer (some ⟨w.heap.size, 0, none⟩)) ∧ (∃ sv, Tb w' w.heap.size w.heap.size 0 sv (newE [] (enE L))) ∧ Below w.heap.size w w' := by
  have HM := Aside0.mk hm
  have HRD := Aside0.mk hrd
  have HG := Aside0.mk hG
  clear hm hrd hG
  refine (callsIn_wide (n := 9)).1 ?_
  refine callsIn_of_wp_marks Tryz.func35 rfl trivial ?_ rfl
  simp only [Tryz.ntmps35, List.size_toArray, List.length_cons, List.length_nil, Nat.reduceAdd, Nat.reduceSub, Array.replicate_succ, Array.replicate_zero, List.push_toArray, List.append_toArray, List.nil_append, List.cons_append]
  gi_wp2_with (refine ⟨trivial, ?_⟩; gi_at_call 61; refine (values_in _ _ _ _ _).mono ?_; rintro e w' ⟨rfl, rfl⟩)
  have bT : (((w.alloc (.cells #[.slice none 0 0, .int .i64 0] 98)).alloc (.cells #[.pointer (some ⟨w.heap.size, 0, none⟩)] 69)).alloc (.cells #[.slice A L.length cap] 23)).heap[w.heap.size]? = some (.cells #[.slice none 0 0, .int .i64 0] 98 (0, 0)) :=
    (Below.heap_alloc _ _ _ (by simp; omega)).trans ((Below.heap_alloc _ _ _ (by simp)).trans (World.alloc_heap_new w _))
  have bP := (Boxed.new (w.alloc (.cells #[.slice none 0 0, .int .i64 0] 98)) 69 (.pointer (some ⟨w.heap.size, 0, none⟩))).alloc (.cells #[.slice A L.length cap] 23)
  have bL := Boxed.new ((w.alloc (.cells #[.slice none 0 0, .int .i64 0] 98)).alloc (.cells #[.pointer (some ⟨w.heap.size, 0, none⟩)] 69)) 23 (.slice A L.length cap)
  simp only [World.size_alloc] at bP bL
  have hB0 : Below w.heap.size w (((w.alloc (.cells #[.slice none 0 0, .int .i64 0] 98)).alloc (.cells #[.pointer (some ⟨w.heap.size, 0, none⟩)] 69)).alloc (.cells #[.slice A L.length cap] 23)) := (((Below.refl _ w).alloc (Nat.le_refl _) _).alloc (by simp) _).alloc (by simp; omega) _
  have hsz : (((w.alloc (.cells #[.slice none 0 0, .int .i64 0] 98)).alloc (.cells #[.pointer (some ⟨w.heap.size, 0, none⟩)] 69)).alloc (.cells #[.slice A L.length cap] 23)).heap.size = w.heap.size + 3 := by simp
  obtain ⟨W0, hW0⟩ : ∃ W0, (((w.alloc (.cells #[.slice none 0 0, .int .i64 0] 98)).alloc (.cells #[.pointer (some ⟨w.heap.size, 0, none⟩)] 69)).alloc (.cells #[.slice A L.length cap] 23)) = W0 := ⟨_, rfl⟩
  rw [hW0] at bT bP bL hB0 hsz ⊢
  clear hW0
  have hr0 : Rd W0 23 A L.length cap G (enE L) := by
    rcases HG.out with h | ⟨h, _⟩
    · exact rd_blk HRD.out (hB0.block G h)
    · have hr := HRD.out
      have hle : (enE L).length = 0 := hr.len.trans h
      exact ⟨hr.len, hr.idx, fun i e he => by rw [List.length_eq_zero_iff.1 hle] at he; cases he⟩
  have hgl : G ≤ w.heap.size := by
    rcases HG.out with h | ⟨_, h⟩ <;> omega
  have hn0 := HM.out
  refine wpIn_rangeFunc_ownH rfl (by omega) (gf := 93) (lb := #[.pointer (some ⟨w.heap.size + 1 + 1, 0, none⟩)]) rfl trivial (enters_of Tryz.func93 (by kernel_rfl) rfl)
    (vals_stops (fun x : Eo => x.1) (fun x => x.2) _ (by omega) (w.heap.size + 1 + 1) A cap G L (by omega) W0 bL hr0 (by omega)) kpg_t (kpg_b (by omega)) (Below.refl _ _) (fun _ => rfl)
    (fun pre W => (∃ sv, Tb W w.heap.size w.heap.size 0 sv (newE [] (enE pre))) ∧ (Boxed W (w.heap.size + 1) 69 (.pointer (some ⟨w.heap.size, 0, none⟩)) ∧ Below w.heap.size w W))
    (fun _ _ _ => False)
    (OwnFrom.and (tb_ownFrom _ _ _ _ _) (OwnFrom.and (Own.from (boxed_own _ _ _) _) (ownFrom_below (Nat.le_refl _) (by omega))))
    (fun _ _ _ _ _ hs _ _ => hs)
    ⟨⟨.slice none 0 0, ⟨bT, World.ownsRow_nil _ _ _ _, fun e he => by cases he⟩⟩, bP, hB0⟩
    (fun x a' W => ∃ Bx, w.heap.size + 1 < Bx ∧ W.heap[Bx]? = some (.cells (eE x.1) 44 (0, 0)) ∧ a' = { tmps := #[.slice A L.length cap, undef, .pointer none, .pointer (some ⟨w.heap.size + 1, 0, none⟩), .pointer (some ⟨Bx, 0, none⟩), .agg #[.slice none 0 0, .int .i64 0], .pointer (some ⟨w.heap.size, 0, none⟩), .slice A L.length cap, .func (.func 93) #[] #[.pointer (some ⟨w.heap.size + 1 + 1, 0, none⟩)], .agg (eE x.1), undef, undef, undef, undef, undef, undef, undef], defers := [] })
    (fun x a' _ X Y row hs hg hr => by obtain ⟨Bx, h1, h2, h3⟩ := hs; exact ⟨Bx, h1, cells_kept h2 hg (fun r e => (hr r e).2), h3⟩)
    ?assign ?body ?done ?stop
  case assign =>
    rintro l pre x W K ⟨⟨sv, hT⟩, hP, hB1⟩ hK
    have hltT := (Array.getElem?_eq_some_iff.1 hT.blk).1
    dsimp only [encE]
    have HTT := Aside0.mk hT
    have HPP := Aside0.mk hP
    have HBB := Aside0.mk hB1
    have HGW := Aside0.mk (Nat.lt_of_le_of_lt hgl hltT)
    have HP1 := Aside0.mk hP.lt
    clear hT hP hB1
    rw [assign_one]
    simp only [List.setIfInBounds_toArray, List.set_cons_zero, List.set_cons_succ]
    gi_wp2_with (first
      | ((with_reducible refine in_gate (N := 4) rfl ?_); refine in_new rfl (N := 4) rfl (fun f hf => by simp [Oper.about] at hf) (fun c hc => by cases hc) (cs := eE noE) (t := 44) ?hr ?_; (case hr => first | (go_simp; done) | (go_simp; rfl)); intro g4 hg4 w1 hbox hb; have HBX := Aside0.mk hbox; have HB1 := Aside0.mk hb; have HG4 := Aside0.mk hg4; clear hbox hb hg4)
      | ((with_reducible refine in_gate_store (p := 4) rfl ?_); refine in_store_row rfl 44 (.tmp 4) (.tmp 9) rfl g4 (eE x.1) rfl rfl 44 (eE noE) HBX.out (infoEE x.2) ((by rfl : (eE noE).size = 19).trans (eE_size x.2).symm) (eE_one x.1) ?_
         have HX := Aside0.mk (row_new (cells := eE x.1) HBX.out)
         have HB2 := Aside0.mk (below_row HB1.out (Nat.le_of_eq HG4.out.symm) (eE x.1))
         generalize w1.setRow g4 (eE x.1) = w2 at HX HB2 ⊢))
    have hb2 := HB2.out
    exact hK _ _ (KeepsOthers.from ⟨hb2.size, fun k o hk _ => blk_below hk hb2⟩ _) (kpg_below hb2 HGW.out) ⟨⟨sv, tb_below HTT.out hb2⟩, blk_below HPP.out hb2, HBB.out.trans (hb2.mono HBB.out.size)⟩ ⟨g4, by have := HG4.out; have := HP1.out; omega, HX.out, rfl⟩
  case body =>
    rintro l pre x a' W hl hrl ⟨⟨sv, hT⟩, hP, hB1⟩ ⟨Bx, hBx, bX, rfl⟩ hlt
    have hc1 := hP.cell
    have hcv : W.cell? ⟨Bx, 18, none⟩ = some (.int .i64 x.1.v) := by
      have := part_v x.2 (range_row (xs := lE x.1) bX)
      rw [Nat.zero_add] at this
      exact this
    have HRP := Aside0.mk (range_pfx bX)
    obtain ⟨hk1, hk2, hk3⟩ := newE_facts (enE pre) (ok_enE pre) [] (fun e he => by cases he) List.Pairwise.nil
    have hk4 : (newE [] (enE pre)).length ≤ 1000 := by
      rw [List.length_nil, show (enE pre).length = pre.length from List.length_map ..] at hk3
      omega
    have HTT := Aside0.mk hT
    have HPP := Aside0.mk hP
    have HBB := Aside0.mk hB1
    have HS := Aside0.mk hk2
    have HN := Aside0.mk hk4
    have HSN := Aside0.mk (show setIf (newE [] (enE pre)) x.1 = newE [] (enE (pre ++ [x])) by rw [show enE (pre ++ [x]) = enE pre ++ [x.1] from List.map_append ..]; exact (newE_snoc [] (enE pre) x.1).symm)
    clear hT hP hB1 hk1 hk2 hk3 hk4 bX
    gi_wp2_with (first
      | ((with_reducible refine in_gate (N := 12) rfl ?_); refine in_load_mid rfl 42 (.tmp 11) rfl Bx 0 rfl (lP x.1.p) _ HRP.out Tryz.underlying42 rfl (infoPf_len x.2) ?_)
      | (refine ⟨trivial, ?_⟩; gi_at_call 25; refine (CallsIn.inRound l (callsIn_wide.2 (table_Set_er w.heap.size w.heap.size 0 sv _ x.1 x.2 W HTT.out HS.out HN.out (HBB.out.size)))).mono ?_; rintro e w2 ⟨er, rfl, HT2, HCH⟩))
    obtain ⟨sv2, ht2⟩ := HT2.out
    rw [HSN.out] at ht2
    have hch := HCH.out
    have hbw := chg_below' hch (Nat.le_refl _) HBB.out.size
    have hgl2 : G < w.heap.size := by
      rcases HG.out with h | ⟨h, _⟩
      · exact h
      · rw [h] at hlt; exact absurd hlt (Nat.not_lt_zero _)
    exact ⟨(chg_keeps HTT.out.blk hch).from _, kpg_below hbw hgl2, ⟨sv2, ht2⟩, hch.block _ _ (by omega) HPP.out (.inr (fun cs fr e => by cases e)), HBB.out.trans hbw⟩
  case done =>
    rintro D ys W hD rfl ⟨⟨sv, hT⟩, hP, hB1⟩ hK
    have hc1 := hP.cell
    gi_wp2
    refine ⟨by simp, .inl ⟨_, _, rfl, run_takeDeferred hK, ?_⟩⟩
    exact ⟨_, results_tmp rfl _ _ _, rfl, ⟨sv, tb_kept hT (grown_put W D _) (fun r e => by cases e; exact ⟨_, hK, rfl⟩)⟩, hB1.trans (belowK_b (w := w) (Nat.le_refl _) W D _ _ (by omega) hK rfl rfl)⟩
  case stop =>
    rintro D c pre W _ _ h _
    exact h.elim
theorem new_none (w : World) : Calls Tryz.prog 35 #[.slice none 0 0] w fun r w' => r = .returned (.pointer (some ⟨w.heap.size, 0, none⟩)) ∧ (∃ sv, Tb w' w.heap.size w.heap.size 0 sv []) ∧ Below w.heap.size w w' :=
  table_New' none 0 w.heap.size [] (by decide) w ⟨rfl, fun w i hi => absurd hi (Nat.not_lt_zero _), fun i e he => by cases he⟩ (.inr ⟨rfl, rfl⟩)
end Go.Proofs.YthdognlkacjkhaaGreatDoor.P
end
section
namespace Go.Proofs.YthdognlkacjkhaaGreatDoor.P
open Go.RowKit Go.Proofs.YthdognlkacjkhaaGreatDoorW.PrintWords Go.Proofs.YthdognlkacjkhaaGreatDoorW.PrintLast Go.Proofs.YthdognlkacjkhaaGreatDoorW.PrintMore
set_option linter.unusedVariables false
set_option linter.unusedSimpArgs false
section
variable {ops : Array Oper} {rest : List Oper} {o : Oper} {a : Act} {w : World} {Q : Exit → Act → World → Prop}
end
theorem ok_findQ {l : List En} (hl : okE l) (a : Ad) : ((findQ l a).getD noE).p.a.ok := by
  have hg : ∀ p, ((getE l p).getD noE).p.a.ok := fun p => by
    cases h : getE l p with
    | none => exact ok_noE
    | some e => exact hl e (List.mem_of_find?_eq_some h)
  have hL : ∀ n, ((findL l a n).getD noE).p.a.ok := by
    intro n
    induction n with
    | zero => exact hg _
    | succ n ih => unfold findL; split; exact hg _; exact ih
  unfold findQ findI
  split
  · exact ok_noE
  · split
    · exact ok_noE
    · exact hL _
/-- The document's list in a world: a row that nothing else holds. -/
abbrev Ow (w : World) (u : Value) (l : List En) : Prop := w.ownsRow 0 52 19 u l.length (flE l)
theorem ow_rd {w : World} {u : Value} {l : List En} (h : Ow w u l) (hl : okE l) : ∃ (A : Option Addr) (cap G : Nat), u = .slice A l.length cap ∧ Rd w 25 A l.length cap G l := by
  obtain ⟨A, cap, G, h1, h2, _⟩ := rd_of_own h hl 25 (fun g n cap i w hi => idx_er g n cap i w hi)
  exact ⟨A, cap, G, h1, h2⟩
theorem ref_Set (u : Value) (l : List En) (hl : okE l) (hs : Sorted l) (p : Pf) (hp : p.a.ok) (v : Int) (w : World) (hr : Ow w u l) (hn : l.length ≤ 1000) :
    Calls Tryz.prog 23 #[u, .agg (eP p), .int .i64 v] w fun r w' => ∃ u', r = .returned (.tuple #[u', .int .i64 (if mayQ p = true then 0 else 1)]) ∧ Ow w' u' (if mayQ p = true then setE l p v else l) ∧ Below w.heap.size w w' := by
  obtain ⟨A, cap, G, rfl, hrd⟩ := ow_rd hr hl
  rw [may_same hp]
  cases hm : mayP p
  · refine (ref06_Set_no A l.length cap G l hl hs p hp v w hrd hn hm).mono ?_
    rintro r w' ⟨rfl, hb⟩
    exact ⟨_, rfl, own_below hr hb, hb⟩
  · refine (ref06_Set_yes A l.length cap G l hl hs p hp v w hrd hn hm).mono ?_
    rintro r w' ⟨u', rfl, ho, hb⟩
    exact ⟨_, rfl, own_weaken ho (Nat.zero_le _), hb⟩
theorem ref_Find (u : Value) (l : List En) (hl : okE l) (hnb : ∀ e ∈ l, e.p.n ≤ 1000000) (a : Ad) (ha : a.ok) (w : World) (hr : Ow w u l) (hn : l.length ≤ 1000) :
    Calls Tryz.prog 16 #[u, .agg (eA a)] w fun r w' => r = .returned (.tuple #[.agg (eE ((bestE l a l.length).getD noE)), .bool (bestE l a l.length).isSome]) ∧ Below w.heap.size w w' := by
  obtain ⟨A, cap, G, rfl, hrd⟩ := ow_rd hr hl
  exact ref06_Find A l.length cap G l hl hnb a ha w hrd (by omega)
theorem ow_chg {T base : Nat} {w w' : World} {u : Value} {l : List En} (h : Ow w u l) {cs : Array Value} (hT : w.heap[T]? = some (.cells cs 98 (0, 0))) (hc : Chg T base w w') : Ow w' u l := by
  rcases h.2 with ⟨rfl, h0⟩ | ⟨g, cap, cur, rfl, hb, hg, hn, hm, hsz, ht⟩
  · exact ⟨h.1, .inl ⟨rfl, h0⟩⟩
  · refine ⟨h.1, .inr ⟨g, cap, cur, rfl, hb, hc.block g _ (fun e => by subst e; rw [hT] at hg; cases hg) hg (.inr (fun cs fr e => by cases e)), hn, hm, hsz, ht⟩⟩
/-- A deed, as the statement tells it. -/
structure De where
  kind : Int
  p : Pf
  v : Int
  raw : Bool
theorem set_two (T base : Nat) (st : Int) (sv : Value) (l : List En) (p : Pf) (hp : p.a.ok) (v er : Int) (l2 : List En) (her : er = if mayQ p = true then 0 else 1) (hl2 : l2 = if mayQ p = true then setE l p v else l) (w : World) (ht : Tb w T base st sv l) (hs : Sorted l) (hn : l.length ≤ 1000) (hb0 : base ≤ w.heap.size) :
    Calls Tryz.prog 25 #[.pointer (some ⟨T, 0, none⟩), .agg (eP p), .int .i64 v] w fun r w' => r = .returned (.int .i64 er) ∧ Aside0 (∃ sv', Tb w' T base st sv' l2) ∧ Aside0 (Chg T base w w') := by
  rw [her, hl2]
  exact (table_Set T base st sv l p hp v w ht hs hn hb0).mono fun r w' ⟨h1, h2, h3⟩ => ⟨h1, ⟨h2⟩, ⟨h3⟩⟩
theorem may_setE {l : List En} (hm : ∀ e ∈ l, mayP e.p = true) {p : Pf} (hp : mayP p = true) (v : Int) : ∀ e ∈ setE l p v, mayP e.p = true := fun e he => by
  unfold setE at he
  rcases List.mem_append.1 he with he | he
  · exact hm e ((List.mem_filter.1 he).1)
  · rcases List.mem_cons.1 he with rfl | he
    · exact hp
    · exact hm e ((List.mem_filter.1 he).1)
/-- What a list of entries always is. -/
structure Fine (l : List En) (n : Nat) : Prop where
  ok : okE l
  sorted : Sorted l
  may : ∀ e ∈ l, mayP e.p = true
  len : l.length ≤ n
theorem fine_nil : Fine [] 0 := ⟨fun e he => (by cases he), List.Pairwise.nil, fun e he => (by cases he), Nat.le_refl _⟩
theorem fine_set {l : List En} {n : Nat} (h : Fine l n) {p : Pf} (hp : p.a.ok) (v : Int) : Fine (if mayQ p = true then setE l p v else l) (n + 1) := by
  split
  · rename_i hm
    rw [may_same hp] at hm
    exact ⟨ok_setE h.ok hp v, sorted_setE h.ok h.sorted hp v, may_setE h.may hm v, Nat.le_trans (setE_length l p v) (Nat.succ_le_succ h.len)⟩
  · exact ⟨h.ok, h.sorted, h.may, Nat.le_succ_of_le h.len⟩
theorem chg_base {T base : Nat} {w w' : World} (h : Chg T base w w') (hT : base ≤ T) (hb : base ≤ w.heap.size) : Below base w w' := chg_below' h hT hb
theorem wrap_up6 (k : Nat) (h : k ≤ 1000000) : wrap64 ((k : Int) + 1) = ((k + 1 : Nat) : Int) := by unfold wrap64; omega
theorem measure_up (L i : Nat) (z : Int) (h : z = ((i + 1 : Nat) : Int)) (hlt : i < L) : L - (intOf (.int .i64 z)).toNat < L - (intOf (.int .i64 (i : Int))).toNat := by
  subst h
  show L - (((i + 1 : Nat) : Int)).toNat < L - ((i : Nat) : Int).toNat
  rw [Int.toNat_natCast, Int.toNat_natCast]
  omega
theorem own_block_ne {w : World} {base n T : Nat} {te : TypeId} {v : Value} {xs : List Value} {cs : Array Value} {t : TypeId} (h : w.ownsRow base te 19 v n xs) (hT : w.heap[T]? = some (.cells cs t (0, 0))) (ht : t ≠ te) : v.ownBlock ≠ some T := by
  rcases h.2 with ⟨rfl, _⟩ | ⟨g, cap, cur, rfl, hb, hg, _⟩
  · intro e; cases e
  · intro e
    have e' : g = T := Option.some.inj e
    subst e'
    rw [hg] at hT
    cases hT
    exact ht rfl
theorem ticks_grown {T so : Nat} {w w' : World} {k : Int} (h : Ticks T so w w' k) : w.grownBy w' (some T) :=
  ⟨h.os, h.tape, h.output, h.size, fun j hj hne => h.block j hj (fun e => hne (by rw [e]))⟩
theorem tb_ticks {T base : Nat} {st k : Int} {v : Value} {l : List En} {w w' : World} (h : Tb w T base st v l) (ht : Ticks T 1 w w' k) : Tb w' T base k v l :=
  ⟨ht.same _ _ h.blk, h.row.kept (ticks_grown ht) (.inr (own_block_ne h.row h.blk (by decide))), h.ok⟩
theorem ow_ticks {T base : Nat} {st k : Int} {v u : Value} {l l' : List En} {w w' : World} (h : Tb w T base st v l) (ho : Ow w u l') (ht : Ticks T 1 w w' k) : Ow w' u l' :=
  ho.kept (ticks_grown ht) (.inr (own_block_ne ho h.blk (by decide)))
section
variable {ops : Array Oper} {rest : List Oper} {o : Oper} {a : Act} {w : World} {Q : Exit → Act → World → Prop}
end
theorem val_cell {w : World} {g : Nat} {e : En} {t : TypeId} (he : e.p.a.ok) (h : w.heap[g]? = some (.cells (eE e) t (0, 0))) : w.cell? ⟨g, 18, none⟩ = some (.int .i64 e.v) := by
  have := part_v he (range_row (xs := lE e) h)
  rw [Nat.zero_add] at this
  exact this
theorem tb_row {w : World} {T base g : Nat} {st : Int} {v : Value} {l : List En} {cells : Array Value} (h : Tb w T base st v l) (hT : g ≠ T) (ho : some g ≠ v.ownBlock) : Tb (w.setRow g cells) T base st v l :=
  ⟨(row_far (Ne.symm hT)).trans h.blk, h.row.kept (row := some g) ⟨rfl, rfl, rfl, by rw [row_size]; exact Nat.le_refl _, fun k _ hk => row_far (fun e => hk (by rw [e]))⟩ (.inr (fun e => ho e.symm)), h.ok⟩
theorem own_fresh {w : World} {base n g : Nat} {te : TypeId} {v : Value} {xs : List Value} (h : w.ownsRow base te 19 v n xs) (hg : w.heap.size ≤ g) : some g ≠ v.ownBlock := by
  rcases h.2 with ⟨rfl, _⟩ | ⟨g', cap, cur, rfl, hb, hgg, _⟩
  · intro e; cases e
  · intro e
    have e' : g = g' := Option.some.inj e
    have := (Array.getElem?_eq_some_iff.1 hgg).1
    omega
/-! ### the plain law -/
end Go.Proofs.YthdognlkacjkhaaGreatDoor.P
end
