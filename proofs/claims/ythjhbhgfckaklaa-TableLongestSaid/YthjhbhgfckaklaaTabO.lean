/-
  Find holds prefixes against one another no more often than is told.
-/
import Derived.Test.YthjhbhgfckaklaaTabJ
import Derived.Test.YthjhbhgfckaklaaTabN
namespace Go.Proofs.Ythjhbhgfckaklaa.P
open Go.RowKit Go.Proofs.YthjhbhgfckaklaaW.PrintWords Go.Proofs.YthjhbhgfckaklaaW.PrintLast Go.Proofs.YthjhbhgfckaklaaW.PrintMore
set_option linter.unusedVariables false
set_option linter.unusedSimpArgs false
theorem own_block_ne {w : World} {base n T : Nat} {te : TypeId} {v : Value} {xs : List Value} {cs : Array Value} {t : TypeId} (h : w.ownsRow base te 19 v n xs) (hT : w.heap[T]? = some (.cells cs t (0, 0))) (ht : t ≠ te) : v.ownBlock ≠ some T := by
  rcases h.2 with ⟨rfl, _⟩ | ⟨g, cap, cur, rfl, hb, hg, _⟩
  · intro e; cases e
  · intro e
    have e' : g = T := Option.some.inj e
    subst e'
    rw [hg] at hT
    cases hT
    exact ht rfl
theorem ticks_grown {T so : Nat} {w w' : World} {k : Int} (h : Ticks T so w w' k) : w.grownBy w' (some T) :=
  ⟨h.os, h.tape, h.output, h.size, fun j hj hne => h.block j hj (fun e => hne (by rw [e]))⟩
theorem tb_ticks {T base : Nat} {st k : Int} {v : Value} {l : List En} {w w' : World} (h : Tb w T base st v l) (ht : Ticks T 1 w w' k) : Tb w' T base k v l :=
  ⟨ht.same _ _ h.blk, h.row.kept (ticks_grown ht) (.inr (own_block_ne h.row h.blk (by decide))), h.ok⟩
end Go.Proofs.Ythjhbhgfckaklaa.P
