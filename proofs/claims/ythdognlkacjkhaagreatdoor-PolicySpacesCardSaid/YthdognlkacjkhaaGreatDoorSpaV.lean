/-
  An entry put in, a prefix set: all other rows stay.
-/
import Derived.Test.YthdognlkacjkhaaGreatDoorSpaU
import Derived.Maps.AppendAt
namespace Go.Proofs.YthdognlkacjkhaaGreatDoor.P
open Go.RowKit Go.Proofs.YthdognlkacjkhaaGreatDoorW.PrintWords Go.Proofs.YthdognlkacjkhaaGreatDoorW.PrintLast Go.Proofs.YthdognlkacjkhaaGreatDoorW.PrintMore
set_option linter.unusedVariables false
set_option linter.unusedSimpArgs false
/-- All blocks but the table's own, and its row's, are as they were. -/
structure Chg3 (T : Nat) (own : Option Nat) (w w' : World) : Prop where
  os : w'.os = w.os
  tape : w'.tape = w.tape
  output : w'.output = w.output
  size : w.heap.size ≤ w'.heap.size
  block : ∀ k, k < w.heap.size → k ≠ T → some k ≠ own → w'.heap[k]? = w.heap[k]?
theorem own_keep {w w' : World} {base n : Nat} {te : TypeId} {v : Value} {xs : List Value} (h : w.ownsRow base te 19 v n xs) (hk : ∀ g, v.ownBlock = some g → w'.heap[g]? = w.heap[g]?) : w'.ownsRow base te 19 v n xs := by
  rcases h.2 with h2 | ⟨g, cap, cur, rfl, hb, hg, h3⟩
  · exact ⟨h.1, .inl h2⟩
  · exact ⟨h.1, .inr ⟨g, cap, cur, rfl, hb, (hk g rfl).trans hg, h3⟩⟩
/-- A map stays, where what is its own stays. -/
theorem mp_keep {w w' : World} {M T base : Nat} {st : Int} {sv : Value} {l : List En} (h : Mp w M T base st sv l) (hk : ∀ g, g < w.heap.size → g = M ∨ g = T ∨ sv.ownBlock = some g → w'.heap[g]? = w.heap[g]?) : Mp w' M T base st sv l :=
  ⟨(hk M (Array.getElem?_eq_some_iff.1 h.blk).1 (.inl rfl)).trans h.blk, ⟨(hk T (Array.getElem?_eq_some_iff.1 h.tb.blk).1 (.inr (.inl rfl))).trans h.tb.blk, own_keep h.tb.row (fun g hg => hk g (h.tb.row.lt g hg).2 (.inr (.inr hg))), h.tb.ok⟩⟩
theorem mp_own_ne {w : World} {M T base k : Nat} {st : Int} {sv : Value} {l : List En} (h : Mp w M T base st sv l) {o : Obj} (ho : w.heap[k]? = some o) (hn : notEn o) : sv.ownBlock ≠ some k := fun e => own_ne h.tb.row ho (.inr hn) e.symm
end Go.Proofs.YthdognlkacjkhaaGreatDoor.P
