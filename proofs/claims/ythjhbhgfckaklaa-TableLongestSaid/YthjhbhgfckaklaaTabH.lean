/-
  slices.Values of entries, and its iterator.
-/
import Derived.RangeFuncNested
import Derived.RangeFuncBound
import Derived.RangeFuncCalls
import Derived.RangeFuncLeaves
import Derived.Shelf.Abstract
import Derived.WalkKit
import Derived.OwnWalkIn
import Derived.TacticsInMore
import Derived.LoopNIn
import Derived.LoopIn
import Derived.Test.YthjhbhgfckaklaaM9
namespace Go.Proofs.Ythjhbhgfckaklaa.P
open Go.RowKit Go.Shelf Go.Proofs.YthjhbhgfckaklaaW.PrintWords Go.Proofs.YthjhbhgfckaklaaW.PrintLast Go.Proofs.YthjhbhgfckaklaaW.PrintMore
set_option linter.unusedVariables false
set_option linter.unusedSimpArgs false
attribute [local go_sem] Oper.semAt_some
/-! ### operations of a region inside a fence, by what they run to -/
section
variable {F : Fence} {n : Nat} {P : Program} {ops : Array Oper} {rest : List Oper} {o : Oper} {a : Act} {Q : Exit → Act → World → Prop} {W W1 : World}
theorem in_value {v : Value} (hg : o.guard = none) (ha : ∀ f, o.about P W a.eval = some f → F.fn f) (hd : ∀ c, o.op ≠ .defer c) (hrun : (execOp a.eval o).run P W = .ok (.value v) W1) (h : wpListIn F n P ops Q rest (a.put o.dst v) W1) : wpListIn F n P ops Q (o :: rest) a W := by
  refine wpListIn_plain hg fun K hK => ?_
  unfold Oper.wpIn
  refine ⟨ha, ?_⟩
  rw [Oper.semAt_plain F _ _ hd, hrun]
  exact hK _ _ h
theorem in_skip (hg : o.guard = none) (ha : ∀ f, o.about P W a.eval = some f → F.fn f) (hd : ∀ c, o.op ≠ .defer c) (hrun : (execOp a.eval o).run P W = .ok .skip W1) (h : wpListIn F n P ops Q rest (a.put o.dst undef) W1) : wpListIn F n P ops Q (o :: rest) a W := by
  refine wpListIn_plain hg fun K hK => ?_
  unfold Oper.wpIn
  refine ⟨ha, ?_⟩
  rw [Oper.semAt_plain F _ _ hd, hrun]
  exact hK _ _ h
theorem in_load_mid (hg : o.guard = none) (ty : TypeId) (x : Operand) (ho : o.op = .load ty x) (b f : Nat) (hx : a.eval x = .pointer (some ⟨b, f, none⟩)) (cs : List Value) (d : TypeDesc) (hc : W.rangeAt b f cs)
    (hu : P.underlying ty = some d) (hd : d.isRow = true) (hi : (P.info? ty).map (·.size) = some cs.length) (h : wpListIn F n P ops Q rest (a.put o.dst (.agg cs.toArray)) W) : wpListIn F n P ops Q (o :: rest) a W := by
  refine in_value hg (fun f hf => ?_) (by rw [ho]; intro c hc'; cases hc') (W1 := W) ?_ h
  · simp [Oper.about, ho] at hf
  · unfold execOp
    simp only [ho, hx, Instr.loadAt, Instr.sureAddr, Sem.run_bind, Sem.run_pure, Result.andThen_ok, run_loadVar_mid W b f ty cs d hc hu hd hi]
theorem in_store_row (hgd : o.guard = none) (ty : TypeId) (x y : Operand) (ho : o.op = .store ty x y) (g : Nat) (cells : Array Value) (hx : a.eval x = .pointer (some ⟨g, 0, none⟩)) (hy : a.eval y = .agg cells)
    (t : TypeId) (old : Array Value) (hg : W.heap[g]? = some (.cells old t (0, 0))) (hi : (P.info? ty).map (·.size) = some cells.size) (hold : old.size = cells.size) (h1 : cells.all (·.oneCell') = true)
    (h : wpListIn F n P ops Q rest (a.put o.dst undef) (W.setRow g cells)) : wpListIn F n P ops Q (o :: rest) a W := by
  refine in_skip hgd (fun f hf => ?_) (by rw [ho]; intro c hc'; cases hc') (W1 := W.setRow g cells) ?_ h
  · simp [Oper.about, ho] at hf
  · unfold execOp
    simp only [ho, hx, hy, Instr.storeAt, Instr.sureAddr, Sem.run_bind, Sem.run_pure, Result.andThen_ok, run_storeVar_row W g t ty old cells hg hi hold h1]
theorem in_new (hgd : o.guard = none) {N : Tmp} (_hd : o.dst = some N) (ha : ∀ f, o.about P W a.eval = some f → F.fn f) (hnd : ∀ c, o.op ≠ .defer c) {cs : Array Value} {t : TypeId}
    (hrun : (execOp a.eval o).run P W = .ok (.value (.pointer (some ⟨W.heap.size, 0, none⟩))) (W.alloc (.cells cs t (0, 0))))
    (h : ∀ g, g = W.heap.size → ∀ w1, w1.heap[g]? = some (.cells cs t (0, 0)) → Below W.heap.size W w1 → wpListIn F n P ops Q rest (a.put o.dst (.pointer (some ⟨g, 0, none⟩))) w1) : wpListIn F n P ops Q (o :: rest) a W :=
  in_value hgd ha hnd hrun (h _ rfl _ (World.alloc_heap_new W _) ((Below.refl _ _).alloc (Nat.le_refl _) _))
theorem in_gate {N : Tmp} (_hN : o.dst = some N) (h : wpListIn F n P ops Q (o :: rest) a W) : wpListIn F n P ops Q (o :: rest) a W := h
theorem in_gate_store {t : TypeId} {p : Tmp} {v : Operand} (_ho : o.op = .store t (.tmp p) v) (h : wpListIn F n P ops Q (o :: rest) a W) : wpListIn F n P ops Q (o :: rest) a W := h
end
theorem infoEn_len {e : En} (he : e.p.a.ok) : (Try.prog.info? 42).map (·.size) = some (lE e).length := by
  rw [infoEn, lE_len he]
/-! ### the iterator -/
abbrev Eo := {e : En // e.p.a.ok}
def encE {α : Type} (val : α → En) (x : α) : Array Value := #[.agg (eE (val x))]
def enE (L : List Eo) : List En := L.map (·.1)
/-- What a round that goes on keeps: the row that is read. -/
def KpG (G : Nat) (W W' : World) : Prop := W.heap.size ≤ W'.heap.size ∧ W'.heap[G]? = W.heap[G]?
theorem rd_blk {W W' : World} {ty : TypeId} {A : Option Addr} {n cap G : Nat} {l : List En} (h : Rd W ty A n cap G l) (hb : W'.heap[G]? = W.heap[G]?) : Rd W' ty A n cap G l :=
  ⟨h.len, h.idx, fun i e he j v hv => (World.cell?_of_block hb).trans (h.at_ i e he j v hv)⟩
theorem values_in (n : Nat) (A : Option Addr) (m c0 : Nat) (w : World) :
    CallsIn Fence.wide n Try.prog 42 #[.slice A m c0] w fun e w' =>
      e = .returned (.func (.func 67) #[] #[.pointer (some ⟨w.heap.size, 0, none⟩)]) ∧
      w' = w.alloc (.cells #[.slice A m c0] 50) := by
  refine callsIn_of_wp Try.func42 rfl trivial ?_ rfl
  simp only [Try.ntmps42, List.size_toArray, List.length_cons, List.length_nil, Nat.reduceAdd, Nat.reduceSub, Array.replicate_succ, Array.replicate_zero, List.push_toArray, List.append_toArray, List.nil_append, List.cons_append]
  gi_wp2
  go_ret
  exact ⟨by simp, rfl⟩
theorem measure_nextV (L i : Nat) (z : Int) (h : z = ((i + 1 : Nat) : Int)) (hlt : i < L) : L - (intOf (.int .i64 z)).toNat < L - (intOf (.int .i64 (i : Int))).toNat := by
  subst h
  show L - (((i + 1 : Nat) : Int)).toNat < L - ((i : Nat) : Int).toNat
  rw [Int.toNat_natCast, Int.toNat_natCast]
  omega
theorem abides_lower {β : Type} {B B' : Nat} {J : β → World → Prop} (h : AbidesFrom B J) (hb : B ≤ B') : AbidesFrom B' J := fun s W W' row hs hg hr => h s W W' row hs hg (fun r e => ⟨Nat.le_trans hb (hr r e).1, (hr r e).2⟩)
theorem wrap_nextV (i : Nat) (h : i < 9223372036854775807) : wrap64 ((i : Int) + 1) = ((i + 1 : Nat) : Int) := by unfold wrap64; omega
set_option maxRecDepth 100000 in
set_option maxHeartbeats 2000000 in
theorem vals1_in {α : Type} (val : α → En) (hok : ∀ x, (val x).p.a.ok) (n : Nat) (hn : 1 ≤ n) (l Bs : Nat) (A : Option Addr) (cap G : Nat) (L : List α) (hm : L.length ≤ 1000000) (J Jx : List α → World → Prop)
    (hY : ∀ pre x W, J pre W → pre ++ [x] <+: L → YieldAt Fence.wide (n - 1) Try.prog l (encE val x) W fun e W' =>
      (e = .returned (.bool true) ∧ J (pre ++ [x]) W' ∧ KpG G W W') ∨ (e = .returned (.bool false) ∧ Jx (pre ++ [x]) W'))
    (W : World) (hJ : AbidesFrom W.heap.size J) (hBs : W.cell? ⟨Bs, 0, none⟩ = some (.slice A L.length cap)) (hrd : Rd W 50 A L.length cap G (L.map val)) (hG : G < W.heap.size) (h0 : J [] W) :
    CallsIn Fence.wide n Try.prog 67 #[.func (.yield l) #[] #[], .pointer (some ⟨Bs, 0, none⟩)] W fun e W' => (∃ v, e = .returned v) ∧
      ((∃ ys, ys = L ∧ J ys W') ∨ (∃ pre, pre <+: L ∧ Jx pre W')) := by
  have HM := Aside0.mk hm
  have HY := Aside0.mk hY
  have HJ := Aside0.mk hJ
  have HRD := Aside0.mk hrd
  have HG := Aside0.mk hG
  have H0 := Aside0.mk h0
  clear hm hY hJ hrd hG h0
  refine callsIn_of_wp Try.func67 rfl trivial ?_ rfl
  simp only [Try.ntmps67, List.size_toArray, List.length_cons, List.length_nil, Nat.reduceAdd, Nat.reduceSub, Array.replicate_succ, Array.replicate_zero, List.push_toArray, List.append_toArray, List.nil_append, List.cons_append]
  gi_wp2
  gi_loopw [7] (fun v7 wr => ∃ (i : Nat), v7 = .int .i64 (i : Int) ∧ Aside0 (i ≤ L.length) ∧ Aside0 (J (L.take i) wr) ∧ Aside0 (KpG G W wr)) (fun v7 _ => L.length - (intOf v7).toNat)
  case atStart => exact ⟨0, rfl, ⟨Nat.zero_le _⟩, by rw [List.take_zero]; exact H0, ⟨Nat.le_refl _, rfl⟩⟩
  case round =>
    clear H0
    obtain ⟨i, rfl, HI, HJp, HK⟩ := hrel
    by_cases hlt : i < L.length
    · have c3b0 : decide ((i : Int) < (L.length : Int)) = true := decide_eq_true (by omega)
      obtain ⟨x, hx⟩ : ∃ x, L[i]? = some x := ⟨L[i], List.getElem?_eq_getElem hlt⟩
      have hxe : (L.map val)[i]? = some (val x) := by rw [List.getElem?_map, hx]; rfl
      have HIX := Aside0.mk (fun w => HRD.out.idx w i hlt)
      have HAT := Aside0.mk ((rd_blk HRD.out HK.out.2).at_ i (val x) hxe)
      have HSN := Aside0.mk (show L.take i ++ [x] = L.take (i + 1) by rw [List.take_add_one, hx]; rfl)
      have HPR := Aside0.mk (show L.take i ++ [x] <+: L by rw [HSN.out]; exact List.take_prefix _ _)
      have HLT := Aside0.mk hlt
      have HE1 := Aside0.mk (wrap_nextV i (by have := HM.out; omega))
      clear hx hxe
      have HGW := Aside0.mk (Nat.lt_of_lt_of_le HG.out HK.out.1)
      have HJW := Aside0.mk (abides_lower HJ.out HK.out.1)
      gi_wp2_with (first
        | ((with_reducible refine in_gate (N := 9) rfl ?_); refine in_value rfl (fun f hf => by simp [Oper.about] at hf) (fun c hc => by cases hc) (v := .pointer (some ⟨G, i * 19, none⟩)) (W1 := wr) ?hr ?_; (case hr => go_simp; rw [HIX.out]; rfl))
        | ((with_reducible refine in_gate (N := 10) rfl ?_); refine in_load_mid rfl 42 (.tmp 9) rfl G (i * 19) rfl (lE (val x)) _ HAT.out Try.underlying42 rfl (infoEn_len (hok x)) ?_)
        | ((with_reducible refine in_gate (N := 4) rfl ?_); refine in_new rfl (N := 4) rfl (fun f hf => by simp [Oper.about] at hf) (fun c hc => by cases hc) (cs := eE noE) (t := 42) ?hr ?_; (case hr => first | (go_simp; done) | (go_simp; rfl)); intro g4 hg4 w1 hbox hb; have HBX := Aside0.mk hbox; have HB1 := Aside0.mk hb; have HG4 := Aside0.mk hg4; clear hbox hb hg4)
        | ((with_reducible refine in_gate_store (p := 4) rfl ?_); refine in_store_row rfl 42 (.tmp 4) (.tmp 10) rfl g4 (eE (val x)) rfl rfl 42 (eE noE) HBX.out (infoEE (hok x)) ((by rfl : (eE noE).size = 19).trans (eE_size (hok x)).symm) (eE_one (val x)) ?_
           have HX := Aside0.mk (range_row (xs := lE (val x)) (setRow_heap w1 g4 (eE noE) (eE (val x)) 42 (0, 0) HBX.out))
           have HB2 := Aside0.mk (below_row HB1.out (Nat.le_of_eq HG4.out.symm) (eE (val x)))
           generalize w1.setRow g4 (eE (val x)) = w2 at HX HB2 ⊢
           have hg2 : wr.grownBy w2 none := ⟨HB2.out.os, HB2.out.tape, HB2.out.output, HB2.out.size, fun k hk _ => HB2.out.block k hk⟩
           have HJ2 := Aside0.mk (HJW.out (L.take i) wr w2 none HJp.out hg2 (fun r e => by cases e))
           have HK2 := Aside0.mk (show KpG G wr w2 from ⟨HB2.out.size, HB2.out.block G HGW.out⟩)
           obtain ⟨fn, tmps, assign, body, hy, hR⟩ := HY.out (L.take i) x w2 HJ2.out HPR.out
           dsimp only [encE, eE] at hy
           clear hg2)
        | ((with_reducible refine in_gate (N := 12) rfl ?_); refine in_load_mid rfl 42 (.tmp 4) rfl g4 0 rfl (lE (val x)) _ HX.out Try.underlying42 rfl (infoEn_len (hok x)) ?_)
        )
      refine hR.mono ?_
      rintro e W3 (⟨rfl, hJ3, hk3⟩ | ⟨rfl, hJx3⟩)
      · have HJ3 := Aside0.mk hJ3
        have HK3 := Aside0.mk hk3
        clear hJ3 hk3
        gi_wp2
        go_roundw
        case rel => exact ⟨i + 1, congrArg (Value.int .i64) HE1.out, ⟨HLT.out⟩, ⟨by rw [← HSN.out]; exact HJ3.out⟩, ⟨Nat.le_trans HK.out.1 (Nat.le_trans HK2.out.1 HK3.out.1), HK3.out.2.trans (HK2.out.2.trans HK.out.2)⟩⟩
        case measure => exact measure_nextV L.length i _ HE1.out hlt
      · gi_wp2
        refine bodyPost_ret (results_none rfl _ _ _) rfl ?_
        exact ⟨⟨_, rfl⟩, .inr ⟨_, HPR.out, hJx3⟩⟩
    · have c3b0 : decide ((i : Int) < (L.length : Int)) = false := decide_eq_false (by omega)
      have hr : L.take i = L := List.take_of_length_le (by omega)
      gi_wp2
      go_end0
      exact ⟨⟨_, rfl⟩, .inl ⟨L.take i, hr, HJp.out⟩⟩
end Go.Proofs.Ythjhbhgfckaklaa.P
