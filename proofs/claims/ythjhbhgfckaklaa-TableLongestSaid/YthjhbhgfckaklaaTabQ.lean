/-
  A prefix of no bits has all addresses of its family (the walk).
-/
import Derived.Test.YthjhbhgfckaklaaTabO
namespace Go.Proofs.Ythjhbhgfckaklaa.P
open Go.RowKit Go.Proofs.YthjhbhgfckaklaaW.PrintWords Go.Proofs.YthjhbhgfckaklaaW.PrintLast Go.Proofs.YthjhbhgfckaklaaW.PrintMore
set_option linter.unusedVariables false
set_option linter.unusedSimpArgs false
section
variable {ops : Array Oper} {rest : List Oper} {o : Oper} {a : Act} {w : World} {Q : Exit → Act → World → Prop}
end
theorem tb_row {w : World} {T base g : Nat} {st : Int} {v : Value} {l : List En} {cells : Array Value} (h : Tb w T base st v l) (hT : g ≠ T) (ho : some g ≠ v.ownBlock) : Tb (w.setRow g cells) T base st v l :=
  ⟨(row_far (Ne.symm hT)).trans h.blk, h.row.kept (row := some g) ⟨rfl, rfl, rfl, by rw [row_size]; exact Nat.le_refl _, fun k _ hk => row_far (fun e => hk (by rw [e]))⟩ (.inr (fun e => ho e.symm)), h.ok⟩
theorem own_fresh {w : World} {base n g : Nat} {te : TypeId} {v : Value} {xs : List Value} (h : w.ownsRow base te 19 v n xs) (hg : w.heap.size ≤ g) : some g ≠ v.ownBlock := by
  rcases h.2 with ⟨rfl, _⟩ | ⟨g', cap, cur, rfl, hb, hgg, _⟩
  · intro e; cases e
  · intro e
    have e' : g = g' := Option.some.inj e
    have := (Array.getElem?_eq_some_iff.1 hgg).1
    omega
/-! ### the plain law -/
end Go.Proofs.Ythjhbhgfckaklaa.P
