/-
  A map of entries.
-/
import Derived.Test.YtjilnigmbnmlfaaGreatDoorM13
import Derived.Test.YtjilnigmbnmlfaaGreatDoorM12
namespace Go.Proofs.YtjilnigmbnmlfaaGreatDoor.P
open Go.RowKit Go.Deep Go.Proofs.YtjilnigmbnmlfaaGreatDoorW.PrintWords Go.Proofs.YtjilnigmbnmlfaaGreatDoorW.PrintLast Go.Proofs.YtjilnigmbnmlfaaGreatDoorW.PrintMore
set_option linter.unusedVariables false
set_option linter.unusedSimpArgs false
section
variable {H : Type} {enc : TypeId × Value → H} {W : World} {base : Nat} {spare : Nat → Bool} {held : Bool}
/-- A slice that reads as these entries. -/
structure RdT (w : World) (A : Option Addr) (n cap : Nat) (L : List En) : Prop where
  len : L.length = n
  form : 0 < n → ∃ a, A = some a
  le : n ≤ cap
  at_ : ∀ (i : Nat) (e : En), L[i]? = some e → ∃ G o, (∀ (w : World) (m c : Nat), i < m → (Instr.indexAt 38 (.slice A m c) (.int .i64 (i : Int))).run Tryz.prog w = .ok (.pointer (some ⟨G, o, none⟩)) w) ∧ w.rangeAt G o (lE e) ∧ e.p.a.ok
end
end Go.Proofs.YtjilnigmbnmlfaaGreatDoor.P
