/-
  A deed, of the program and of the document.
-/
import Derived.Test.YthjhbhgfckaklaaTabI
import Derived.Test.YthjhbhgfckaklaaTabK
namespace Go.Proofs.Ythjhbhgfckaklaa.P
open Go.RowKit Go.Proofs.YthjhbhgfckaklaaW.PrintWords Go.Proofs.YthjhbhgfckaklaaW.PrintLast Go.Proofs.YthjhbhgfckaklaaW.PrintMore
set_option linter.unusedVariables false
set_option linter.unusedSimpArgs false
/-- The document's list in a world: a row that nothing else holds. -/
abbrev Ow (w : World) (u : Value) (l : List En) : Prop := w.ownsRow 0 63 19 u l.length (flE l)
theorem ow_rd {w : World} {u : Value} {l : List En} (h : Ow w u l) (hl : okE l) : ∃ (A : Option Addr) (cap G : Nat), u = .slice A l.length cap ∧ Rd w 51 A l.length cap G l := by
  obtain ⟨A, cap, G, h1, h2, _⟩ := rd_of_own h hl 51 (fun g n cap i w hi => idx_er g n cap i w hi)
  exact ⟨A, cap, G, h1, h2⟩
theorem ref_Set (u : Value) (l : List En) (hl : okE l) (hs : Sorted l) (p : Pf) (hp : p.a.ok) (v : Int) (w : World) (hr : Ow w u l) (hn : l.length ≤ 1000) :
    Calls Try.prog 25 #[u, .agg (eP p), .int .i64 v] w fun r w' => ∃ u', r = .returned (.tuple #[u', .int .i64 (if mayQ p = true then 0 else 1)]) ∧ Ow w' u' (if mayQ p = true then setE l p v else l) ∧ Below w.heap.size w w' := by
  obtain ⟨A, cap, G, rfl, hrd⟩ := ow_rd hr hl
  rw [may_same hp]
  cases hm : mayP p
  · refine (ref06_Set_no A l.length cap G l hl hs p hp v w hrd hn hm).mono ?_
    rintro r w' ⟨rfl, hb⟩
    exact ⟨_, rfl, own_below hr hb, hb⟩
  · refine (ref06_Set_yes A l.length cap G l hl hs p hp v w hrd hn hm).mono ?_
    rintro r w' ⟨u', rfl, ho, hb⟩
    exact ⟨_, rfl, own_weaken ho (Nat.zero_le _), hb⟩
theorem ref_Drop (u : Value) (l : List En) (hl : okE l) (p : Pf) (hp : p.a.ok) (w : World) (hr : Ow w u l) (hn : l.length ≤ 1000) :
    Calls Try.prog 53 #[u, .agg (eP p)] w fun r w' => ∃ u', r = .returned (.tuple #[u', .bool (hasE l p)]) ∧ Ow w' u' (dropE l p) ∧ Below w.heap.size w w' := by
  obtain ⟨A, cap, G, rfl, hrd⟩ := ow_rd hr hl
  refine (ref06_Drop A l.length cap G l hl p hp w hrd hn).mono ?_
  rintro r w' ⟨u', rfl, ho, hb⟩
  exact ⟨_, rfl, own_weaken ho (Nat.zero_le _), hb⟩
theorem ref_Get (u : Value) (l : List En) (hl : okE l) (p : Pf) (hp : p.a.ok) (w : World) (hr : Ow w u l) (hn : l.length ≤ 1000) :
    Calls Try.prog 59 #[u, .agg (eP p)] w fun r w' => r = .returned (.tuple #[.int .i64 (valE l p), .bool (hasE l p)]) ∧ Below w.heap.size w w' := by
  obtain ⟨A, cap, G, rfl, hrd⟩ := ow_rd hr hl
  exact ref06_Get A l.length cap G l hl p hp w hrd (by omega)
theorem ow_chg {T base : Nat} {w w' : World} {u : Value} {l : List En} (h : Ow w u l) {cs : Array Value} (hT : w.heap[T]? = some (.cells cs 90 (0, 0))) (hc : Chg T base w w') : Ow w' u l := by
  rcases h.2 with ⟨rfl, h0⟩ | ⟨g, cap, cur, rfl, hb, hg, hn, hm, hsz, ht⟩
  · exact ⟨h.1, .inl ⟨rfl, h0⟩⟩
  · refine ⟨h.1, .inr ⟨g, cap, cur, rfl, hb, hc.block g _ (fun e => by subst e; rw [hT] at hg; cases hg) hg (.inr (fun cs fr e => by cases e)), hn, hm, hsz, ht⟩⟩
/-- A deed, as the statement tells it. -/
structure De where
  kind : Int
  p : Pf
  v : Int
  raw : Bool
def lD (d : De) : List Value := .int .i64 d.kind :: (lP d.p ++ [.int .i64 d.v, .bool d.raw])
def eD (d : De) : Array Value := (lD d).toArray
def pfD (d : De) : Pf := if d.raw = true then d.p else goodP d.p
def doE (l : List En) (d : De) : List En := if d.kind = 0 then (if mayQ (pfD d) = true then setE l (pfD d) d.v else l) else if d.kind = 1 then dropE l (pfD d) else l
theorem ok_pfD {d : De} (h : d.p.a.ok) : (pfD d).a.ok := by
  unfold pfD
  split
  · exact h
  · exact ok_goodP d.p
theorem lD_len {d : De} (h : d.p.a.ok) : (lD d).length = 21 := by unfold lD; rw [List.length_cons, List.length_append, lP_len h]; rfl
theorem ddP {w : World} {g : Nat} {t : TypeId} {d : De} (hg : w.heap[g]? = some (.cells (eD d) t (0, 0))) : w.rangeAt g 1 (lP d.p) := fun j v hv => by
  rw [cell_of_row w g (1 + j) _ t (0, 0) hg]
  unfold eD lD
  rw [List.getElem?_toArray, show 1 + j = j + 1 by omega, List.getElem?_cons_succ, List.getElem?_append_left (List.getElem?_eq_some_iff.1 hv).1]
  exact hv
theorem dd0 {w : World} {g : Nat} {t : TypeId} {d : De} (hg : w.heap[g]? = some (.cells (eD d) t (0, 0))) : w.cell? ⟨g, 0, none⟩ = some (.int .i64 d.kind) := by
  rw [cell_of_row w g 0 _ t (0, 0) hg]
  rfl
theorem ddV {w : World} {g : Nat} {t : TypeId} {d : De} (h : d.p.a.ok) (hg : w.heap[g]? = some (.cells (eD d) t (0, 0))) : w.cell? ⟨g, 19, none⟩ = some (.int .i64 d.v) := by
  rw [cell_of_row w g 19 _ t (0, 0) hg]
  unfold eD lD
  rw [List.getElem?_toArray, List.getElem?_cons_succ, List.getElem?_append_right (by rw [lP_len h]; exact Nat.le_refl _), lP_len h]
  rfl
theorem ddR {w : World} {g : Nat} {t : TypeId} {d : De} (h : d.p.a.ok) (hg : w.heap[g]? = some (.cells (eD d) t (0, 0))) : w.cell? ⟨g, 20, none⟩ = some (.bool d.raw) := by
  rw [cell_of_row w g 20 _ t (0, 0) hg]
  unfold eD lD
  rw [List.getElem?_toArray, List.getElem?_cons_succ, List.getElem?_append_right (by rw [lP_len h]; decide), lP_len h]
  rfl
end Go.Proofs.Ythjhbhgfckaklaa.P
