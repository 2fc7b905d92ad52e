/-
  A deed, of the program and of the document.
-/
import Derived.Test.YthjhbhgfckaklaaTabI
import Derived.Test.YthjhbhgfckaklaaTabK
namespace Go.Proofs.Ythjhbhgfckaklaa.P
open Go.RowKit Go.Proofs.YthjhbhgfckaklaaW.PrintWords Go.Proofs.YthjhbhgfckaklaaW.PrintLast Go.Proofs.YthjhbhgfckaklaaW.PrintMore
set_option linter.unusedVariables false
set_option linter.unusedSimpArgs false
/-- The document's list in a world: a row that nothing else holds. -/
abbrev Ow (w : World) (u : Value) (l : List En) : Prop := w.ownsRow 0 63 19 u l.length (flE l)
theorem ow_rd {w : World} {u : Value} {l : List En} (h : Ow w u l) (hl : okE l) : ∃ (A : Option Addr) (cap G : Nat), u = .slice A l.length cap ∧ Rd w 51 A l.length cap G l := by
  obtain ⟨A, cap, G, h1, h2, _⟩ := rd_of_own h hl 51 (fun g n cap i w hi => idx_er g n cap i w hi)
  exact ⟨A, cap, G, h1, h2⟩
theorem ref_Set (u : Value) (l : List En) (hl : okE l) (hs : Sorted l) (p : Pf) (hp : p.a.ok) (v : Int) (w : World) (hr : Ow w u l) (hn : l.length ≤ 1000) :
    Calls Try.prog 25 #[u, .agg (eP p), .int .i64 v] w fun r w' => ∃ u', r = .returned (.tuple #[u', .int .i64 (if mayQ p = true then 0 else 1)]) ∧ Ow w' u' (if mayQ p = true then setE l p v else l) ∧ Below w.heap.size w w' := by
  obtain ⟨A, cap, G, rfl, hrd⟩ := ow_rd hr hl
  rw [may_same hp]
  cases hm : mayP p
  · refine (ref06_Set_no A l.length cap G l hl hs p hp v w hrd hn hm).mono ?_
    rintro r w' ⟨rfl, hb⟩
    exact ⟨_, rfl, own_below hr hb, hb⟩
  · refine (ref06_Set_yes A l.length cap G l hl hs p hp v w hrd hn hm).mono ?_
    rintro r w' ⟨u', rfl, ho, hb⟩
    exact ⟨_, rfl, own_weaken ho (Nat.zero_le _), hb⟩
/-- A deed, as the statement tells it. -/
structure De where
  kind : Int
  p : Pf
  v : Int
  raw : Bool
def lD (d : De) : List Value := .int .i64 d.kind :: (lP d.p ++ [.int .i64 d.v, .bool d.raw])
def pfD (d : De) : Pf := if d.raw = true then d.p else goodP d.p
theorem ok_pfD {d : De} (h : d.p.a.ok) : (pfD d).a.ok := by
  unfold pfD
  split
  · exact h
  · exact ok_goodP d.p
end Go.Proofs.Ythjhbhgfckaklaa.P
