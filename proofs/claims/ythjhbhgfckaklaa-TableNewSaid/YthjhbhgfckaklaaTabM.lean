/-
  A deed, of the program and of the document (the walk).
-/
import Derived.Test.YthjhbhgfckaklaaTabL
namespace Go.Proofs.Ythjhbhgfckaklaa.P
open Go.RowKit Go.Proofs.YthjhbhgfckaklaaW.PrintWords Go.Proofs.YthjhbhgfckaklaaW.PrintLast Go.Proofs.YthjhbhgfckaklaaW.PrintMore
set_option linter.unusedVariables false
set_option linter.unusedSimpArgs false
theorem set_one (u : Value) (l : List En) (hl : okE l) (hs : Sorted l) (p : Pf) (hp : p.a.ok) (v er : Int) (l2 : List En) (her : er = if mayQ p = true then 0 else 1) (hl2 : l2 = if mayQ p = true then setE l p v else l) (w : World) (hr : Ow w u l) (hn : l.length ≤ 1000) :
    Calls Try.prog 25 #[u, .agg (eP p), .int .i64 v] w fun r w' => ∃ u', r = .returned (.tuple #[u', .int .i64 er]) ∧ Aside0 (Ow w' u' l2) ∧ Below w.heap.size w w' := by
  rw [her, hl2]
  exact (ref_Set u l hl hs p hp v w hr hn).mono fun r w' ⟨u', h1, h2, h3⟩ => ⟨u', h1, ⟨h2⟩, h3⟩
end Go.Proofs.Ythjhbhgfckaklaa.P
