/-
  A map of entries.
-/
import Derived.Test.YthdognlkacjkhaaGreatDoorM13
import Derived.Test.YthdognlkacjkhaaGreatDoorM12
namespace Go.Proofs.YthdognlkacjkhaaGreatDoor.P
open Go.RowKit Go.Deep Go.Proofs.YthdognlkacjkhaaGreatDoorW.PrintWords Go.Proofs.YthdognlkacjkhaaGreatDoorW.PrintLast Go.Proofs.YthdognlkacjkhaaGreatDoorW.PrintMore
set_option linter.unusedVariables false
set_option linter.unusedSimpArgs false
section
variable {H : Type} {enc : TypeId × Value → H} {W : World} {base : Nat} {spare : Nat → Bool} {held : Bool}
theorem opens_en (n : Nat) (cs : List Value) (x : DataW H × List MemPlace) (h : DataW.trod enc Tryz.prog W base spare held n 44 cs = some x) : ∃ e : En, cs = lE e ∧ e.p.a.ok := by
  obtain ⟨xs, m, _, _, hl, hlen, hf⟩ := DataW.trod_struct Tryz.underlying44 h
  have hl19 : cs.length = 19 := hl.trans (by kernel_rfl)
  have hI : Tryz.prog.cellsOf 3 = 1 := by kernel_rfl
  have hB : Tryz.prog.cellsOf 42 = 18 := by kernel_rfl
  have hxl : xs.length = 2 := hlen
  obtain ⟨y0, hy0⟩ : ∃ y, xs[0]? = some y := ⟨xs[0]'(by omega), List.getElem?_eq_getElem _⟩
  obtain ⟨y1, hy1⟩ : ∃ y, xs[1]? = some y := ⟨xs[1]'(by omega), List.getElem?_eq_getElem _⟩
  have h0 : DataW.trod enc Tryz.prog W base spare held m 42 ((cs.drop 0).take (Tryz.prog.cellsOf 42)) = some y0 := (hf 0 _ rfl).trans hy0
  have h1 : DataW.trod enc Tryz.prog W base spare held m 3 ((cs.drop 18).take (Tryz.prog.cellsOf 3)) = some y1 := (hf 1 _ rfl).trans hy1
  rw [hI] at h1
  rw [hB] at h0
  obtain ⟨v, hv, _, _⟩ := DataW.trod_int Tryz.underlying3 h1
  obtain ⟨p, hp, hok⟩ := opens_pf _ _ _ h0
  refine ⟨⟨p, v⟩, ?_, hok⟩
  rw [split3 cs 18 1, hv, show cs.take 18 = lP p from hp, List.drop_of_length_le (by omega), List.append_nil]
  rfl
theorem idx_et (g o n cap i : Nat) (w : World) (hi : i < n) : (Instr.indexAt 23 (.slice (some ⟨g, o, none⟩) n cap) (.int .i64 (i : Int))).run Tryz.prog w = .ok (.pointer (some ⟨g, o + i * 19, none⟩)) w := by
  have h0 : (0 : Int) ≤ (i : Int) := Int.natCast_nonneg i
  have h1 : (i : Int) < (n : Int) := by omega
  go_simp
/-- A slice that reads as these entries. -/
structure RdT (w : World) (A : Option Addr) (n cap : Nat) (L : List En) : Prop where
  len : L.length = n
  form : 0 < n → ∃ a, A = some a
  le : n ≤ cap
  at_ : ∀ (i : Nat) (e : En), L[i]? = some e → ∃ G o, (∀ (w : World) (m c : Nat), i < m → (Instr.indexAt 23 (.slice A m c) (.int .i64 (i : Int))).run Tryz.prog w = .ok (.pointer (some ⟨G, o, none⟩)) w) ∧ w.rangeAt G o (lE e) ∧ e.p.a.ok
theorem opens_ens (n : Nat) (cs : List Value) (x : DataW H × List MemPlace) (h : DataW.trod enc Tryz.prog W base spare held n 23 cs = some x) : ∃ (A : Option Addr) (m cap : Nat) (L : List En), cs = [.slice A m cap] ∧ RdT W A m cap L := by
  rcases open_slice Tryz.underlying23 h with ⟨rfl, _⟩ | ⟨a, len, cap, m, n', D, Pl, rfl, hb, hl, hm, hmm, _, hel⟩
  · exact ⟨none, 0, 0, [], rfl, rfl, fun h => absurd h (by decide), Nat.le_refl _, fun i d hd => by simp at hd⟩
  · have hS : Tryz.prog.cellsOf 44 = 19 := by kernel_rfl
    rw [hS] at hel
    have hlm : len ≤ m := by rw [hmm]; split <;> omega
    obtain ⟨L, h1, h2⟩ := row_ext (α := En) (len := len) (Q := fun i d => ∃ G o, (∀ (w : World) (m c : Nat), i < m → (Instr.indexAt 23 (.slice (some a) m c) (.int .i64 (i : Int))).run Tryz.prog w = .ok (.pointer (some ⟨G, o, none⟩)) w) ∧ W.rangeAt G o (lE d) ∧ d.p.a.ok) (fun i hi => by
      obtain ⟨cs', hcs, htr⟩ := hel i (by omega)
      obtain ⟨d, rfl, hok⟩ := opens_en _ _ _ htr
      obtain ⟨cs0, hcs0, _⟩ := hel 0 (by omega)
      have hsp := no_spot hcs0 (by decide)
      have hsp' : a.spot = none := by rw [Nat.zero_mul] at hsp; unfold Addr.add at hsp; simpa using hsp
      obtain ⟨g, o, sp⟩ := a
      cases hsp'
      rw [Addr.add_mid] at hcs
      exact ⟨d, g, o + i * 19, fun w m c hm => idx_et g o m c i w hm, range_cells hcs, hok⟩)
    exact ⟨some a, len, cap, L, rfl, h1, fun _ => ⟨a, rfl⟩, by omega, h2⟩
end
theorem map_Add (M T base : Nat) (st : Int) (sv : Value) (l l2 : List En) (p : Pf) (hp : p.a.ok) (v er : Int) (her : er = erS p v) (hl2 : l2 = addS l p v) (w : World) (hm : Mp w M T base st sv l) (hs : Sorted l) (hn : l.length ≤ 1000) (hb0 : base ≤ w.heap.size) :
    Calls Tryz.prog 11 #[.pointer (some ⟨M, 0, none⟩), .agg (eP p), .int .i64 v] w fun e w' => e = .returned (.int .i64 er) ∧ Aside0 (∃ sv', Mp w' M T base st sv' l2) ∧ Aside0 (Chg T base w w') := by
  cases hv : inS v with
  | false =>
    have e1 : er = 1 := by rw [her]; unfold erS; rw [if_neg (by rw [hv]; decide)]
    have e2 : l2 = l := by rw [hl2]; unfold addS; rw [if_neg (by rw [hv]; decide)]
    subst e1 e2
    exact (map_Add_no M p v hv w).mono fun e w' ⟨h1, h2⟩ => ⟨h1, ⟨sv, mp_below hm h2⟩, ⟨chg_below h2⟩⟩
  | true => exact map_Add_yes M T base st sv l l2 p hp v er hv (by rw [her]; unfold erS; rw [if_pos hv]) (by rw [hl2]; unfold addS; rw [if_pos hv]) w hm hs hn hb0
theorem fine_addS {l : List En} {n : Nat} (h : Fine l n) {p : Pf} (hp : p.a.ok) (v : Int) : Fine (addS l p v) (n + 1) := by
  unfold addS
  split
  · exact fine_set h hp v
  · exact ⟨h.ok, h.sorted, h.may, Nat.le_succ_of_le h.len⟩
end Go.Proofs.YthdognlkacjkhaaGreatDoor.P
