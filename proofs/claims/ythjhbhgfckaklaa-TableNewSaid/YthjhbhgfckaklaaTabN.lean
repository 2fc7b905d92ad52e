/-
  A table behind deeds.
-/
import Derived.Test.YthjhbhgfckaklaaTabM
namespace Go.Proofs.Ythjhbhgfckaklaa.P
open Go.RowKit Go.Proofs.YthjhbhgfckaklaaW.PrintWords Go.Proofs.YthjhbhgfckaklaaW.PrintLast Go.Proofs.YthjhbhgfckaklaaW.PrintMore
set_option linter.unusedVariables false
set_option linter.unusedSimpArgs false
/-- A slice that reads as these deeds. -/
structure RdD (w : World) (A : Option Addr) (n cap : Nat) (L : List De) : Prop where
  len : L.length = n
  at_ : ∀ (i : Nat) (d : De), L[i]? = some d → ∃ G o, (∀ w : World, (Instr.indexAt 49 (.slice A n cap) (.int .i64 (i : Int))).run Try.prog w = .ok (.pointer (some ⟨G, o, none⟩)) w) ∧ w.rangeAt G o (lD d) ∧ d.p.a.ok
/-- What a list of entries always is. -/
structure Fine (l : List En) (n : Nat) : Prop where
  ok : okE l
  sorted : Sorted l
  may : ∀ e ∈ l, mayP e.p = true
  len : l.length ≤ n
theorem wrap_up6 (k : Nat) (h : k ≤ 1000000) : wrap64 ((k : Int) + 1) = ((k + 1 : Nat) : Int) := by unfold wrap64; omega
theorem measure_up (L i : Nat) (z : Int) (h : z = ((i + 1 : Nat) : Int)) (hlt : i < L) : L - (intOf (.int .i64 z)).toNat < L - (intOf (.int .i64 (i : Int))).toNat := by
  subst h
  show L - (((i + 1 : Nat) : Int)).toNat < L - ((i : Nat) : Int).toNat
  rw [Int.toNat_natCast, Int.toNat_natCast]
  omega
end Go.Proofs.Ythjhbhgfckaklaa.P
