/-
  Has a table what it must have? (the walk)
-/
import Derived.Test.YthjhbhgfckaklaaTabR
import Derived.Test.YthjhbhgfckaklaaTabS
import Derived.Test.YthjhbhgfckaklaaTabW
namespace Go.Proofs.Ythjhbhgfckaklaa.P
open Go.RowKit Go.Shelf Go.Proofs.YthjhbhgfckaklaaW.PrintWords Go.Proofs.YthjhbhgfckaklaaW.PrintLast Go.Proofs.YthjhbhgfckaklaaW.PrintMore
set_option linter.unusedVariables false
set_option linter.unusedSimpArgs false
attribute [local go_sem] Oper.semAt_some
theorem results_bool {fn : Func} {p : Tmp} (h : fn.results = #[.cell p 4]) (tmps : Array Value) (w : World) (g : Nat) {b : Bool} (hp : tmps.getD p undef = .pointer (some ⟨g, 0, none⟩)) (h1 : Boxed w g 4 (.bool b)) :
    (results fn tmps).run Try.prog w = .ok (.bool b) w := by
  have hp' : tmps[p]?.getD undef = .pointer (some ⟨g, 0, none⟩) := by simpa using hp
  have c1 := h1.cell
  simp [results, h, hp', asAddr, loadVar, c1, go_sem]
theorem eql_func (f : Fn) (xs ys : Array Value) (w : World) : (binOp .eql 70 (.func f xs ys) .nilFunc).run Try.prog w = .ok (.bool false) w :=
  eql_func_nil w _ _ _ _ f xs ys Try.underlying70
theorem below_cell {n : Nat} {w W : World} {b : Nat} {v : Value} (h : Below n w W) (hb : n ≤ b) : Below n w (W.setCell ⟨b, 0, none⟩ v) :=
  h.trans ⟨rfl, rfl, rfl, (KeepsWalks.setCell W _ v).size, fun k hk => Below.heap_setCell W _ v k (by show k ≠ b; omega)⟩
/-- What 'like' knows of its world. -/
structure Lk (w : World) (g3 g4 g6 T base : Nat) (st : Int) (sv u : Value) (l : List En) (W : World) (b : Bool) (n : Nat) : Prop where
  b3 : Boxed W g3 51 u
  b4 : Boxed W g4 4 (.bool b)
  b6 : Boxed W g6 3 (.int .i64 (n : Int))
  ow : Ow W u l
  tb : Tb W T base st sv l
  bel : Below w.heap.size w W
theorem box_here {W : World} {g : Nat} {t : TypeId} {v u : Value} (h : Boxed W g t v) : Boxed (W.setCell ⟨g, 0, none⟩ u) g t u := blk_put h 0 u rfl
theorem own_cell {W : World} {base n k : Nat} {te t : TypeId} {v u x : Value} {xs : List Value} (h : W.ownsRow base te 19 v n xs) (hk : Boxed W k t x) (ht : t ≠ te) : (W.setCell ⟨k, 0, none⟩ u).ownsRow base te 19 v n xs :=
  own_far h (own_block_ne h hk ht)
theorem tb_cell {W : World} {T base k : Nat} {st : Int} {v u x : Value} {t : TypeId} {l : List En} (h : Tb W T base st v l) (hk : Boxed W k t x) (ht : t ≠ 42) : Tb (W.setCell ⟨k, 0, none⟩ u) T base st v l :=
  ⟨(Below.heap_setCell W ⟨k, 0, none⟩ u T (by
    intro e
    have e' : T = k := e
    subst e'
    have h1 := h.blk
    rw [show W.heap[T]? = _ from hk] at h1
    cases h1)).trans h.blk, own_cell h.row hk ht, h.ok⟩
end Go.Proofs.Ythjhbhgfckaklaa.P
