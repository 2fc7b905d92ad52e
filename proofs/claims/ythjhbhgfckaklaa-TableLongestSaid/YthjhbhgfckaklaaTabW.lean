/-
  A region that draws its order, in a round of a range over a function: one walk in the text's order serves every order. And a function value held against nil.
-/
import Derived.Sort.QuietIn
import Derived.Test.YthjhbhgfckaklaaTabH
namespace Go.Proofs.Ythjhbhgfckaklaa.P
open Go.RowKit Go.Shelf Go.Proofs.YthjhbhgfckaklaaW.PrintWords Go.Proofs.YthjhbhgfckaklaaW.PrintLast Go.Proofs.YthjhbhgfckaklaaW.PrintMore
set_option linter.unusedVariables false
set_option linter.unusedSimpArgs false
section
variable {F : Fence} {n : Nat} {P : Program} {ops : Array Oper} {Q : Exit → Act → World → Prop} {md : Region.Mode} {C : World → Prop}
variable {K : Act → Prop} {a : Act} {o : Oper}
end
theorem equalIn_func_nil {P : Program} (w : World) (d : Nat) (t : TypeId) (ps rs : Array TypeId) (vr : Bool) (f : Fn) (xs ys : Array Value) (h : P.underlying t = some (.func ps rs vr)) : (Op.equalIn (d + 1) t (.func f xs ys) .nilFunc).run P w = .ok false w := by
  simp [Op.equalIn, run_underlying h]
theorem eql_func_nil {P : Program} (w : World) (t : TypeId) (ps rs : Array TypeId) (vr : Bool) (f : Fn) (xs ys : Array Value) (h : P.underlying t = some (.func ps rs vr)) : (binOp .eql t (.func f xs ys) .nilFunc).run P w = .ok (.bool false) w := by
  have he : (Op.equal t (.func f xs ys) .nilFunc).run P w = .ok false w := equalIn_func_nil w 9999 t ps rs vr f xs ys h
  simp [binOp, he]
/-- An operation in a round that is wanted. -/
theorem in_when {F : Fence} {n : Nat} {P : Program} {ops : Array Oper} {rest : List Oper} {o : Oper} {a : Act} {Q : Exit → Act → World → Prop} {W W1 : World} {v : Value} (hw : Region.wanted o (yielded ops a.tmps) = true) (ha : ∀ f, o.about P W a.eval = some f → F.fn f) (hd : ∀ c, o.op ≠ .defer c) (hrun : (execOp a.eval o).run P W = .ok (.value v) W1) (h : wpListIn F n P ops Q rest (a.put o.dst v) W1) : wpListIn F n P ops Q (o :: rest) a W := by
  unfold wpListIn
  rw [if_pos hw]
  unfold Oper.wpIn
  refine ⟨ha, ?_⟩
  rw [Oper.semAt_plain F _ _ hd, hrun]
  exact h
theorem in_when_mid {F : Fence} {n : Nat} {P : Program} {ops : Array Oper} {rest : List Oper} {o : Oper} {a : Act} {Q : Exit → Act → World → Prop} {W : World} (hw : Region.wanted o (yielded ops a.tmps) = true) (ty : TypeId) (x : Operand) (ho : o.op = .load ty x) (b f : Nat) (hx : a.eval x = .pointer (some ⟨b, f, none⟩)) (cs : List Value) (d : TypeDesc) (hc : W.rangeAt b f cs)
    (hu : P.underlying ty = some d) (hd : d.isRow = true) (hi : (P.info? ty).map (·.size) = some cs.length) (h : wpListIn F n P ops Q rest (a.put o.dst (.agg cs.toArray)) W) : wpListIn F n P ops Q (o :: rest) a W := by
  refine in_when hw (fun f hf => ?_) (by rw [ho]; intro c hc'; cases hc') (W1 := W) ?_ h
  · simp [Oper.about, ho] at hf
  · unfold execOp
    simp only [ho, hx, Instr.loadAt, Instr.sureAddr, Sem.run_bind, Sem.run_pure, Result.andThen_ok, run_loadVar_mid W b f ty cs d hc hu hd hi]
end Go.Proofs.Ythjhbhgfckaklaa.P
