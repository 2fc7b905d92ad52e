/-
  Whether a prefix may be.
-/
import Derived.Test.YthjhbhgfckaklaaM2
namespace Go.Proofs.Ythjhbhgfckaklaa.P
open Go.RowKit Go.Proofs.YthjhbhgfckaklaaW.PrintWords Go.Proofs.YthjhbhgfckaklaaW.PrintLast Go.Proofs.YthjhbhgfckaklaaW.PrintMore
set_option linter.unusedVariables false
set_option linter.unusedSimpArgs false
def mayPP (p : Pf) : Prop := mayA p.a = true ∧ p.a.fam ≠ 0 ∧ 0 ≤ p.n ∧ p.n ≤ bitsOf p.a.fam ∧ ∀ j : Nat, p.n ≤ (j : Int) → (j : Int) < bitsOf p.a.fam → bitA p.a j = 0
def mayP (p : Pf) : Bool := mayA p.a && decide (p.a.fam ≠ 0) && decide (0 ≤ p.n) && decide (p.n ≤ bitsOf p.a.fam) && (List.range (bitsOf p.a.fam).toNat).all fun j => decide (p.n ≤ (j : Int) → bitA p.a j = 0)
theorem mayP_iff (p : Pf) : mayP p = true ↔ mayPP p := by
  unfold mayP mayPP
  simp only [Bool.and_eq_true, decide_eq_true_eq, List.all_eq_true, List.mem_range]
  constructor
  · rintro ⟨⟨⟨⟨h1, h2⟩, h3⟩, h4⟩, h5⟩
    exact ⟨h1, h2, h3, h4, fun j a b => h5 j (by omega) a⟩
  · rintro ⟨h1, h2, h3, h4, h5⟩
    exact ⟨⟨⟨⟨h1, h2⟩, h3⟩, h4⟩, fun j a b => h5 j b (by omega)⟩
section
variable {P : Program} {ops : Array Oper} {Q : Exit → Act → World → Prop} {md : Region.Mode} {S : World → Prop}
/-- From a region on: the world behind the draw as a letter ('generalize' of the draw does not end). -/
theorem anyH_world {fuel : Nat} {listed : Array Bool} {a : Act} {w : World} (hs : S w) (h : ∀ w' : World, S w' → wpAnyH P md ops Q S fuel listed a w') : wpAnyH P md ops Q S fuel listed a w := h w hs
end
end Go.Proofs.Ythjhbhgfckaklaa.P
