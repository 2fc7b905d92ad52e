/-
  A table behind deeds.
-/
import Derived.Test.YthjhbhgfckaklaaTabM
namespace Go.Proofs.Ythjhbhgfckaklaa.P
open Go.RowKit Go.Proofs.YthjhbhgfckaklaaW.PrintWords Go.Proofs.YthjhbhgfckaklaaW.PrintLast Go.Proofs.YthjhbhgfckaklaaW.PrintMore
set_option linter.unusedVariables false
set_option linter.unusedSimpArgs false
/-- A slice that reads as these deeds. -/
structure RdD (w : World) (A : Option Addr) (n cap : Nat) (L : List De) : Prop where
  len : L.length = n
  at_ : ∀ (i : Nat) (d : De), L[i]? = some d → ∃ G o, (∀ w : World, (Instr.indexAt 49 (.slice A n cap) (.int .i64 (i : Int))).run Try.prog w = .ok (.pointer (some ⟨G, o, none⟩)) w) ∧ w.rangeAt G o (lD d) ∧ d.p.a.ok
/-- What a list of entries always is. -/
structure Fine (l : List En) (n : Nat) : Prop where
  ok : okE l
  sorted : Sorted l
  may : ∀ e ∈ l, mayP e.p = true
  len : l.length ≤ n
theorem chg_base {T base : Nat} {w w' : World} (h : Chg T base w w') (hT : base ≤ T) (hb : base ≤ w.heap.size) : Below base w w' := chg_below' h hT hb
end Go.Proofs.Ythjhbhgfckaklaa.P
