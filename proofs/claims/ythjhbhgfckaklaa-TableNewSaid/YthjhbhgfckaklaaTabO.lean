/-
  Find holds prefixes against one another no more often than is told.
-/
import Derived.Test.YthjhbhgfckaklaaTabJ
import Derived.Test.YthjhbhgfckaklaaTabN
namespace Go.Proofs.Ythjhbhgfckaklaa.P
open Go.RowKit Go.Proofs.YthjhbhgfckaklaaW.PrintWords Go.Proofs.YthjhbhgfckaklaaW.PrintLast Go.Proofs.YthjhbhgfckaklaaW.PrintMore
set_option linter.unusedVariables false
set_option linter.unusedSimpArgs false
theorem own_block_ne {w : World} {base n T : Nat} {te : TypeId} {v : Value} {xs : List Value} {cs : Array Value} {t : TypeId} (h : w.ownsRow base te 19 v n xs) (hT : w.heap[T]? = some (.cells cs t (0, 0))) (ht : t ≠ te) : v.ownBlock ≠ some T := by
  rcases h.2 with ⟨rfl, _⟩ | ⟨g, cap, cur, rfl, hb, hg, _⟩
  · intro e; cases e
  · intro e
    have e' : g = T := Option.some.inj e
    subst e'
    rw [hg] at hT
    cases hT
    exact ht rfl
end Go.Proofs.Ythjhbhgfckaklaa.P
