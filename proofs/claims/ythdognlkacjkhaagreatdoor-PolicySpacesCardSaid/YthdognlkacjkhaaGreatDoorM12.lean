/-
  Texts of the proof, put together.
-/
import Derived.Test.YthdognlkacjkhaaGreatDoorM10
import Derived.Deep.Slices
import Derived.ProofKit
import Derived.ChangeSame
import Derived.OpenShut
section
namespace Go.Proofs.YthdognlkacjkhaaGreatDoor.P
open Go.RowKit Go.Deep Go.Proofs.YthdognlkacjkhaaGreatDoorW.PrintWords Go.Proofs.YthdognlkacjkhaaGreatDoorW.PrintLast Go.Proofs.YthdognlkacjkhaaGreatDoorW.PrintMore
set_option linter.unusedVariables false
set_option linter.unusedSimpArgs false
theorem bytes_of : ∀ (l : List Value), (∀ i, i < l.length → ∃ b : Int, (l.drop i).take 1 = [.int .u8 b] ∧ 0 ≤ b ∧ b ≤ 255) → ∃ bs : List Int, l = bs.map (Value.int .u8) ∧ ∀ x ∈ bs, 0 ≤ x ∧ x ≤ 255
  | [], _ => ⟨[], rfl, fun x h => by cases h⟩
  | v :: t, h => by
    obtain ⟨b, hb, h0⟩ := h 0 (Nat.zero_lt_succ _)
    obtain ⟨bs, ht, h1⟩ := bytes_of t (fun i hi => h (i + 1) (Nat.succ_lt_succ hi))
    have hv : v = .int .u8 b := by simpa using hb
    refine ⟨b :: bs, by rw [hv, ht]; rfl, fun x hx => ?_⟩
    rcases List.mem_cons.1 hx with rfl | hx
    · exact h0
    · exact h1 x hx
theorem u8_range {n : Int} (h : (Lit.int .u8 n).wf = true) : 0 ≤ n ∧ n ≤ 255 := by
  simp [Lit.wf, IntKind.min, IntKind.max, IntKind.signed, IntKind.bits] at h
  exact h
theorem split3 {α : Type} (l : List α) (i j : Nat) : l = l.take i ++ ((l.drop i).take j ++ l.drop (i + j)) := by
  rw [← List.drop_drop, List.take_append_drop, List.take_append_drop]
section
variable {H : Type} {enc : TypeId × Value → H} {W : World} {base : Nat} {spare : Nat → Bool} {held : Bool}
theorem opens_b16 (n : Nat) (cs : List Value) (x : DataW H × List MemPlace) (h : DataW.trod enc Tryz.prog W base spare held n 28 cs = some x) : ∃ bs : List Int, cs = bs.map (Value.int .u8) ∧ bs.length = 16 ∧ ∀ y ∈ bs, 0 ≤ y ∧ y ≤ 255 := by
  obtain ⟨xs, m, _, _, hl, hlen, hf⟩ := DataW.trod_array Tryz.underlying28 h
  have hl16 : cs.length = 16 := hl.trans (by kernel_rfl)
  have hS : Tryz.prog.cellsOf 5 = 1 := by kernel_rfl
  rw [hS] at hf
  obtain ⟨bs, h1, h2⟩ := bytes_of cs (fun i hi => by
    have := hf i (by omega)
    rw [Nat.mul_one] at this
    obtain ⟨y, hy⟩ : ∃ y, xs[i]? = some y := ⟨xs[i]'(by omega), List.getElem?_eq_getElem _⟩
    rw [hy] at this
    obtain ⟨b, hb, _, hw⟩ := DataW.trod_int Tryz.underlying5 this
    exact ⟨b, hb, u8_range hw⟩)
  exact ⟨bs, h1, by rw [h1, List.length_map] at hl16; exact hl16, h2⟩
theorem opens_ad (n : Nat) (cs : List Value) (x : DataW H × List MemPlace) (h : DataW.trod enc Tryz.prog W base spare held n 30 cs = some x) : ∃ a : Ad, cs = lA a ∧ a.ok := by
  obtain ⟨xs, m, _, _, hl, hlen, hf⟩ := DataW.trod_struct Tryz.underlying30 h
  have hl17 : cs.length = 17 := hl.trans (by kernel_rfl)
  have hI : Tryz.prog.cellsOf 3 = 1 := by kernel_rfl
  have hB : Tryz.prog.cellsOf 28 = 16 := by kernel_rfl
  have hxl : xs.length = 2 := hlen
  obtain ⟨y0, hy0⟩ : ∃ y, xs[0]? = some y := ⟨xs[0]'(by omega), List.getElem?_eq_getElem _⟩
  obtain ⟨y1, hy1⟩ : ∃ y, xs[1]? = some y := ⟨xs[1]'(by omega), List.getElem?_eq_getElem _⟩
  have h0 : DataW.trod enc Tryz.prog W base spare held m 3 ((cs.drop 0).take (Tryz.prog.cellsOf 3)) = some y0 := (hf 0 _ rfl).trans hy0
  have h1 : DataW.trod enc Tryz.prog W base spare held m 28 ((cs.drop 1).take (Tryz.prog.cellsOf 28)) = some y1 := (hf 1 _ rfl).trans hy1
  rw [hI] at h0
  rw [hB] at h1
  obtain ⟨f, hf0, _, _⟩ := DataW.trod_int Tryz.underlying3 h0
  obtain ⟨bs, hb0, hb1, hb2⟩ := opens_b16 _ _ _ h1
  refine ⟨⟨f, bs⟩, ?_, hb1, hb2⟩
  rw [split3 cs 1 16, hb0, show cs.take 1 = [.int .i64 f] from hf0, List.drop_of_length_le (by omega), List.append_nil]
  rfl
theorem opens_pf (n : Nat) (cs : List Value) (x : DataW H × List MemPlace) (h : DataW.trod enc Tryz.prog W base spare held n 42 cs = some x) : ∃ p : Pf, cs = lP p ∧ p.a.ok := by
  obtain ⟨xs, m, _, _, hl, hlen, hf⟩ := DataW.trod_struct Tryz.underlying42 h
  have hl18 : cs.length = 18 := hl.trans (by kernel_rfl)
  have hI : Tryz.prog.cellsOf 3 = 1 := by kernel_rfl
  have hB : Tryz.prog.cellsOf 30 = 17 := by kernel_rfl
  have hxl : xs.length = 2 := hlen
  obtain ⟨y0, hy0⟩ : ∃ y, xs[0]? = some y := ⟨xs[0]'(by omega), List.getElem?_eq_getElem _⟩
  obtain ⟨y1, hy1⟩ : ∃ y, xs[1]? = some y := ⟨xs[1]'(by omega), List.getElem?_eq_getElem _⟩
  have h0 : DataW.trod enc Tryz.prog W base spare held m 30 ((cs.drop 0).take (Tryz.prog.cellsOf 30)) = some y0 := (hf 0 _ rfl).trans hy0
  have h1 : DataW.trod enc Tryz.prog W base spare held m 3 ((cs.drop 17).take (Tryz.prog.cellsOf 3)) = some y1 := (hf 1 _ rfl).trans hy1
  rw [hI] at h1
  rw [hB] at h0
  obtain ⟨f, hf0, _, _⟩ := DataW.trod_int Tryz.underlying3 h1
  obtain ⟨a, ha, hok⟩ := opens_ad _ _ _ h0
  refine ⟨⟨a, f⟩, ?_, hok⟩
  rw [split3 cs 17 1, hf0, show cs.take 17 = lA a from ha, List.drop_of_length_le (by omega), List.append_nil]
  rfl
theorem idx_ad (g o n cap i : Nat) (w : World) (hi : i < n) : (Instr.indexAt 22 (.slice (some ⟨g, o, none⟩) n cap) (.int .i64 (i : Int))).run Tryz.prog w = .ok (.pointer (some ⟨g, o + i * 17, none⟩)) w := by
  have h0 : (0 : Int) ≤ (i : Int) := Int.natCast_nonneg i
  have h1 : (i : Int) < (n : Int) := by omega
  go_simp
theorem row_ext {α : Type} {len : Nat} {Q : Nat → α → Prop} (h : ∀ i, i < len → ∃ y, Q i y) : ∃ L : List α, L.length = len ∧ ∀ i d, L[i]? = some d → Q i d := by
  induction len generalizing Q with
  | zero => exact ⟨[], rfl, fun i d hd => by simp at hd⟩
  | succ n ih =>
    obtain ⟨y, hy⟩ := h 0 (Nat.zero_lt_succ _)
    obtain ⟨L, h1, h2⟩ := ih (Q := fun i d => Q (i + 1) d) (fun i hi => h (i + 1) (Nat.succ_lt_succ hi))
    refine ⟨y :: L, by rw [List.length_cons, h1], fun i d hd => ?_⟩
    cases i with
    | zero => simp at hd; rw [← hd]; exact hy
    | succ i => exact h2 i d (by simpa using hd)
theorem no_spot {w : World} {base : Nat} {a : Addr} {n : Nat} {cs : List Value} (h : w.cells? base a n = some cs) (hn : 0 < n) : a.spot = none := by
  obtain ⟨_, hl, hc⟩ := World.cells?_some h
  have h0 := hc 0 hn
  have : cs[0]? = some (cs[0]'(by omega)) := List.getElem?_eq_getElem _
  rw [this] at h0
  cases hs : a.spot with
  | none => rfl
  | some z =>
    unfold World.cell? Addr.add at h0
    simp [hs] at h0
    split at h0 <;> simp_all
theorem range_cells {w : World} {base g o n : Nat} {cs : List Value} (h : w.cells? base ⟨g, o, none⟩ n = some cs) : w.rangeAt g o cs := fun j v hj => by
  obtain ⟨_, hl, hc⟩ := World.cells?_some h
  have hjl : j < n := by rw [← hl]; exact (List.getElem?_eq_some_iff.1 hj).1
  have := hc j hjl
  rw [Addr.add_mid] at this
  rw [this]
  exact hj
/-- A slice that reads as these addresses. -/
structure RdA (w : World) (A : Option Addr) (n cap : Nat) (L : List Ad) : Prop where
  len : L.length = n
  at_ : ∀ (i : Nat) (d : Ad), L[i]? = some d → ∃ G o, (∀ w : World, (Instr.indexAt 22 (.slice A n cap) (.int .i64 (i : Int))).run Tryz.prog w = .ok (.pointer (some ⟨G, o, none⟩)) w) ∧ w.rangeAt G o (lA d) ∧ d.ok
theorem opens_ads (n : Nat) (cs : List Value) (x : DataW H × List MemPlace) (h : DataW.trod enc Tryz.prog W base spare held n 22 cs = some x) : ∃ (A : Option Addr) (m cap : Nat) (L : List Ad), cs = [.slice A m cap] ∧ RdA W A m cap L := by
  rcases open_slice Tryz.underlying22 h with ⟨rfl, _⟩ | ⟨a, len, cap, m, n', D, Pl, rfl, hb, hl, hm, hmm, _, hel⟩
  · exact ⟨none, 0, 0, [], rfl, rfl, fun i d hd => by simp at hd⟩
  · have hS : Tryz.prog.cellsOf 30 = 17 := by kernel_rfl
    rw [hS] at hel
    have hlm : len ≤ m := by rw [hmm]; split <;> omega
    obtain ⟨L, h1, h2⟩ := row_ext (α := Ad) (len := len) (Q := fun i d => ∃ G o, (∀ w : World, (Instr.indexAt 22 (.slice (some a) len cap) (.int .i64 (i : Int))).run Tryz.prog w = .ok (.pointer (some ⟨G, o, none⟩)) w) ∧ W.rangeAt G o (lA d) ∧ d.ok) (fun i hi => by
      obtain ⟨cs', hcs, htr⟩ := hel i (by omega)
      obtain ⟨d, rfl, hok⟩ := opens_ad _ _ _ htr
      obtain ⟨cs0, hcs0, _⟩ := hel 0 (by omega)
      have hsp := no_spot hcs0 (by decide)
      have hsp' : a.spot = none := by rw [Nat.zero_mul] at hsp; unfold Addr.add at hsp; simpa using hsp
      obtain ⟨g, o, sp⟩ := a
      cases hsp'
      rw [Addr.add_mid] at hcs
      exact ⟨d, g, o + i * 17, fun w => idx_ad g o len cap i w hi, range_cells hcs, hok⟩)
    exact ⟨some a, len, cap, L, rfl, h1, h2⟩
end
end Go.Proofs.YthdognlkacjkhaaGreatDoor.P
end
section
namespace Go.Proofs.YthdognlkacjkhaaGreatDoor.P
open Go.RowKit Go.Proofs.YthdognlkacjkhaaGreatDoorW.PrintWords Go.Proofs.YthdognlkacjkhaaGreatDoorW.PrintLast Go.Proofs.YthdognlkacjkhaaGreatDoorW.PrintMore
set_option linter.unusedVariables false
set_option linter.unusedSimpArgs false
theorem built_none : Tryz.prog.built 30 [] = some (eA noA) := by kernel_rfl
section
variable {P : Program} {ops : Array Oper} {rest : List Oper} {o : Oper} {a : Act} {w : World} {Q : Exit → Act → World → Prop}
end
theorem infoAd_len {a : Ad} (h : a.ok) : (Tryz.prog.info? 30).map (·.size) = some (lA a).length := by rw [lA_len h]; exact infoA
end Go.Proofs.YthdognlkacjkhaaGreatDoor.P
end
