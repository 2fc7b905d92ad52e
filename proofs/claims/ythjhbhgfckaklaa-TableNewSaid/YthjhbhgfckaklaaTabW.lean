/-
  A region that draws its order, in a round of a range over a function: one walk in the text's order serves every order. And a function value held against nil.
-/
import Derived.Sort.QuietIn
import Derived.Test.YthjhbhgfckaklaaTabH
namespace Go.Proofs.Ythjhbhgfckaklaa.P
open Go.RowKit Go.Shelf Go.Proofs.YthjhbhgfckaklaaW.PrintWords Go.Proofs.YthjhbhgfckaklaaW.PrintLast Go.Proofs.YthjhbhgfckaklaaW.PrintMore
set_option linter.unusedVariables false
set_option linter.unusedSimpArgs false
section
variable {F : Fence} {n : Nat} {P : Program} {ops : Array Oper} {Q : Exit → Act → World → Prop} {md : Region.Mode} {C : World → Prop}
theorem wpAnyIn_round (l : Nat) (hro : F.round = none) (hnd : ∀ (i : Nat) (o : Oper), ops[i]? = some o → ∀ c, o.op ≠ .defer c) : ∀ (fuel : Nat) (listed : Array Bool) (a : Act) (w : World), wpAnyIn F n P md ops Q fuel listed a w → wpAnyIn (F.inRound l) n P md ops Q fuel listed a w
  | 0, _, _, _, h => h
  | fuel + 1, listed, a, w, h => ⟨h.1, fun i hi => by
      have h2 := wpOpIn_mono (fun a w h => wpAnyIn_round l hro hnd fuel _ a w h) (h.2 i hi)
      unfold wpOpIn at h2 ⊢
      cases ho : ops[i]? with
      | none => simp only [ho] at h2 ⊢; exact h2
      | some o =>
        simp only [ho] at h2 ⊢
        by_cases hw : Region.wanted o (yielded ops a.tmps) = true
        · rw [if_pos hw] at h2 ⊢
          unfold Oper.wpIn at h2 ⊢
          refine ⟨h2.1, ?_⟩
          have h3 := h2.2
          rw [Oper.semAt_eq _ _ _ (hnd i o ho)] at h3 ⊢
          generalize Sem.run P (execOp a.eval o) w = r at h3 ⊢
          cases r with
          | ok x w' => cases x <;> exact h3
          | halt x w' => cases x <;> exact h3
        · rw [if_neg hw] at h2 ⊢
          exact h2⟩
def defersNot (l : List Oper) : Bool := l.all fun o => match o.op with | .defer _ => false | _ => true
theorem noDefer_of {l : List Oper} (h : defersNot l = true) : ∀ (i : Nat) (o : Oper), l.toArray[i]? = some o → ∀ c, o.op ≠ .defer c := by
  intro i o ho c hc
  have hm : o ∈ l := List.mem_of_getElem? (by simpa using ho)
  have h1 := List.all_eq_true.1 h o hm
  rw [hc] at h1
  cases h1
theorem wpIn_region_quiet_round {id : Nat} {a : Act} {w : World} {l : List Oper} (k : Nat) (hro : F.round = none) (hm : P.follows .mixedOrders = true) (hd : defersNot l = true) (hB : Region.lexB .any l.toArray = true) (hC : C { w with drawn := w.drawn + 1 })
    (h : wpQuietIn F n P l.toArray C (fun a' => ∀ w', C w' → Q .normal a' w') l a) : (Code.region id l.toArray true).wpIn (F.inRound k) n P Q a w := by
  simp only [Region.lexB, Bool.and_eq_true] at hB
  refine wpIn_region_any hm (wpAnyIn_round k hro (noDefer_of hd) _ _ _ _ (wpAnyIn_of_quiet (Q := fun a' => ∀ w', C w' → Q .normal a' w') hro (fun _ w' hw' h => h w' hw') _ _ _ _ hC ?_))
  have := wpAnyQIn_lex (F := F) (n := n) (C := C) (md := .any) hB.1 l 0 (Array.replicate l.toArray.size false) a (by simp) (by simpa using hB.2) h
  simpa using this
variable {K : Act → Prop} {a : Act} {o : Oper}
theorem quietIn_run {v : Value} (h : ∀ w, C w → (execOp a.eval o).run P w = .ok (.value v) w) (hk : K (a.put o.dst v)) : o.quietIn F n P a C K :=
  ⟨v, fun w hw => by unfold Oper.quietAtIn; rw [h w hw]; exact ⟨rfl, rfl⟩, hk⟩
theorem quietIn_load_mid (ty : TypeId) (x : Operand) (ho : o.op = .load ty x) (b f : Nat) (hx : a.eval x = .pointer (some ⟨b, f, none⟩)) (cs : List Value) (d : TypeDesc) (hc : ∀ w, C w → w.rangeAt b f cs)
    (hu : P.underlying ty = some d) (hd : d.isRow = true) (hi : (P.info? ty).map (·.size) = some cs.length) (hk : K (a.put o.dst (.agg cs.toArray))) : o.quietIn F n P a C K :=
  quietIn_run (fun w hw => by
    unfold execOp
    simp only [ho, hx, Instr.loadAt, Instr.sureAddr, Sem.run_bind, Sem.run_pure, Result.andThen_ok, run_loadVar_mid w b f ty cs d (hc w hw) hu hd hi]) hk
theorem quietIn_neq (t t' : TypeId) (x y : Operand) (xs ys : Array Value) (r b : Bool) (hb : (!r) = b) (ho : o.op = .binOp .neq t x y t') (hx : a.eval x = .agg xs) (hy : a.eval y = .agg ys) (hm : P.eqGuardType P.depth t = false) (he : ∀ w, C w → (Op.equalIn 10000 t (.agg xs) (.agg ys)).run P w = .ok r w)
    (hk : K (a.put o.dst (.bool b))) : o.quietIn F n P a C K :=
  quietIn_run (fun w hw => by rw [← hb]; exact run_neq_op (r := r) ho hx hy hm (he w hw)) hk
theorem quiet_gate {N : Tmp} (_hN : o.dst = some N) (h : o.quietIn F n P a C K) : o.quietIn F n P a C K := h
end
/-- What stands behind a region that never panics. -/
def calmQ (Q : Exit → Act → World → Prop) : Exit → Act → World → Prop
  | .panic _, _, _ => False
  | e, a, w => Q e a w
theorem wpIn_calm {F : Fence} {n : Nat} {P : Program} {c : Code} {Q : Exit → Act → World → Prop} {a : Act} {w : World} (h : c.wpIn F n P (calmQ Q) a w) : c.wpIn F n P Q a w :=
  Code.wpIn_mono (fun e a w h => by cases e <;> first | exact h | exact h.elim) h
theorem rangeAt_drewN {w : World} {b o : Nat} {cs : List Value} (h : w.rangeAt b o cs) {w' : World} (hw : ∃ k, w' = w.drewN k) : w'.rangeAt b o cs := by
  obtain ⟨k, rfl⟩ := hw
  exact fun j v hv => h j v hv
theorem equalIn_func_nil {P : Program} (w : World) (d : Nat) (t : TypeId) (ps rs : Array TypeId) (vr : Bool) (f : Fn) (xs ys : Array Value) (h : P.underlying t = some (.func ps rs vr)) : (Op.equalIn (d + 1) t (.func f xs ys) .nilFunc).run P w = .ok false w := by
  simp [Op.equalIn, run_underlying h]
theorem eql_func_nil {P : Program} (w : World) (t : TypeId) (ps rs : Array TypeId) (vr : Bool) (f : Fn) (xs ys : Array Value) (h : P.underlying t = some (.func ps rs vr)) : (binOp .eql t (.func f xs ys) .nilFunc).run P w = .ok (.bool false) w := by
  have he : (Op.equal t (.func f xs ys) .nilFunc).run P w = .ok false w := equalIn_func_nil w 9999 t ps rs vr f xs ys h
  simp [binOp, he]
end Go.Proofs.Ythjhbhgfckaklaa.P
