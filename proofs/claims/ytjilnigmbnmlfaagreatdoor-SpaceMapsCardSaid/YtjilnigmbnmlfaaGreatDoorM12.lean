/-
  Texts of the proof, put together.
-/
import Derived.Test.YtjilnigmbnmlfaaGreatDoorM10
import Derived.Deep.Slices
import Derived.ProofKit
import Derived.ChangeSame
import Derived.OpenShut
section
namespace Go.Proofs.YtjilnigmbnmlfaaGreatDoor.P
open Go.RowKit Go.Deep Go.Proofs.YtjilnigmbnmlfaaGreatDoorW.PrintWords Go.Proofs.YtjilnigmbnmlfaaGreatDoorW.PrintLast Go.Proofs.YtjilnigmbnmlfaaGreatDoorW.PrintMore
set_option linter.unusedVariables false
set_option linter.unusedSimpArgs false
theorem bytes_of : ∀ (l : List Value), (∀ i, i < l.length → ∃ b : Int, (l.drop i).take 1 = [.int .u8 b] ∧ 0 ≤ b ∧ b ≤ 255) → ∃ bs : List Int, l = bs.map (Value.int .u8) ∧ ∀ x ∈ bs, 0 ≤ x ∧ x ≤ 255
  | [], _ => ⟨[], rfl, fun x h => by cases h⟩
  | v :: t, h => by
    obtain ⟨b, hb, h0⟩ := h 0 (Nat.zero_lt_succ _)
    obtain ⟨bs, ht, h1⟩ := bytes_of t (fun i hi => h (i + 1) (Nat.succ_lt_succ hi))
    have hv : v = .int .u8 b := by simpa using hb
    refine ⟨b :: bs, by rw [hv, ht]; rfl, fun x hx => ?_⟩
    rcases List.mem_cons.1 hx with rfl | hx
    · exact h0
    · exact h1 x hx
theorem u8_range {n : Int} (h : (Lit.int .u8 n).wf = true) : 0 ≤ n ∧ n ≤ 255 := by
  simp [Lit.wf, IntKind.min, IntKind.max, IntKind.signed, IntKind.bits] at h
  exact h
theorem split3 {α : Type} (l : List α) (i j : Nat) : l = l.take i ++ ((l.drop i).take j ++ l.drop (i + j)) := by
  rw [← List.drop_drop, List.take_append_drop, List.take_append_drop]
section
variable {H : Type} {enc : TypeId × Value → H} {W : World} {base : Nat} {spare : Nat → Bool} {held : Bool}
theorem opens_b16 (n : Nat) (cs : List Value) (x : DataW H × List MemPlace) (h : DataW.trod enc Tryz.prog W base spare held n 22 cs = some x) : ∃ bs : List Int, cs = bs.map (Value.int .u8) ∧ bs.length = 16 ∧ ∀ y ∈ bs, 0 ≤ y ∧ y ≤ 255 := by
  obtain ⟨xs, m, _, _, hl, hlen, hf⟩ := DataW.trod_array Tryz.underlying22 h
  have hl16 : cs.length = 16 := hl.trans (by kernel_rfl)
  have hS : Tryz.prog.cellsOf 5 = 1 := by kernel_rfl
  rw [hS] at hf
  obtain ⟨bs, h1, h2⟩ := bytes_of cs (fun i hi => by
    have := hf i (by omega)
    rw [Nat.mul_one] at this
    obtain ⟨y, hy⟩ : ∃ y, xs[i]? = some y := ⟨xs[i]'(by omega), List.getElem?_eq_getElem _⟩
    rw [hy] at this
    obtain ⟨b, hb, _, hw⟩ := DataW.trod_int Tryz.underlying5 this
    exact ⟨b, hb, u8_range hw⟩)
  exact ⟨bs, h1, by rw [h1, List.length_map] at hl16; exact hl16, h2⟩
theorem opens_ad (n : Nat) (cs : List Value) (x : DataW H × List MemPlace) (h : DataW.trod enc Tryz.prog W base spare held n 24 cs = some x) : ∃ a : Ad, cs = lA a ∧ a.ok := by
  obtain ⟨xs, m, _, _, hl, hlen, hf⟩ := DataW.trod_struct Tryz.underlying24 h
  have hl17 : cs.length = 17 := hl.trans (by kernel_rfl)
  have hI : Tryz.prog.cellsOf 3 = 1 := by kernel_rfl
  have hB : Tryz.prog.cellsOf 22 = 16 := by kernel_rfl
  have hxl : xs.length = 2 := hlen
  obtain ⟨y0, hy0⟩ : ∃ y, xs[0]? = some y := ⟨xs[0]'(by omega), List.getElem?_eq_getElem _⟩
  obtain ⟨y1, hy1⟩ : ∃ y, xs[1]? = some y := ⟨xs[1]'(by omega), List.getElem?_eq_getElem _⟩
  have h0 : DataW.trod enc Tryz.prog W base spare held m 3 ((cs.drop 0).take (Tryz.prog.cellsOf 3)) = some y0 := (hf 0 _ rfl).trans hy0
  have h1 : DataW.trod enc Tryz.prog W base spare held m 22 ((cs.drop 1).take (Tryz.prog.cellsOf 22)) = some y1 := (hf 1 _ rfl).trans hy1
  rw [hI] at h0
  rw [hB] at h1
  obtain ⟨f, hf0, _, _⟩ := DataW.trod_int Tryz.underlying3 h0
  obtain ⟨bs, hb0, hb1, hb2⟩ := opens_b16 _ _ _ h1
  refine ⟨⟨f, bs⟩, ?_, hb1, hb2⟩
  rw [split3 cs 1 16, hb0, show cs.take 1 = [.int .i64 f] from hf0, List.drop_of_length_le (by omega), List.append_nil]
  rfl
theorem opens_pf (n : Nat) (cs : List Value) (x : DataW H × List MemPlace) (h : DataW.trod enc Tryz.prog W base spare held n 40 cs = some x) : ∃ p : Pf, cs = lP p ∧ p.a.ok := by
  obtain ⟨xs, m, _, _, hl, hlen, hf⟩ := DataW.trod_struct Tryz.underlying40 h
  have hl18 : cs.length = 18 := hl.trans (by kernel_rfl)
  have hI : Tryz.prog.cellsOf 3 = 1 := by kernel_rfl
  have hB : Tryz.prog.cellsOf 24 = 17 := by kernel_rfl
  have hxl : xs.length = 2 := hlen
  obtain ⟨y0, hy0⟩ : ∃ y, xs[0]? = some y := ⟨xs[0]'(by omega), List.getElem?_eq_getElem _⟩
  obtain ⟨y1, hy1⟩ : ∃ y, xs[1]? = some y := ⟨xs[1]'(by omega), List.getElem?_eq_getElem _⟩
  have h0 : DataW.trod enc Tryz.prog W base spare held m 24 ((cs.drop 0).take (Tryz.prog.cellsOf 24)) = some y0 := (hf 0 _ rfl).trans hy0
  have h1 : DataW.trod enc Tryz.prog W base spare held m 3 ((cs.drop 17).take (Tryz.prog.cellsOf 3)) = some y1 := (hf 1 _ rfl).trans hy1
  rw [hI] at h1
  rw [hB] at h0
  obtain ⟨f, hf0, _, _⟩ := DataW.trod_int Tryz.underlying3 h1
  obtain ⟨a, ha, hok⟩ := opens_ad _ _ _ h0
  refine ⟨⟨a, f⟩, ?_, hok⟩
  rw [split3 cs 17 1, hf0, show cs.take 17 = lA a from ha, List.drop_of_length_le (by omega), List.append_nil]
  rfl
theorem row_ext {α : Type} {len : Nat} {Q : Nat → α → Prop} (h : ∀ i, i < len → ∃ y, Q i y) : ∃ L : List α, L.length = len ∧ ∀ i d, L[i]? = some d → Q i d := by
  induction len generalizing Q with
  | zero => exact ⟨[], rfl, fun i d hd => by simp at hd⟩
  | succ n ih =>
    obtain ⟨y, hy⟩ := h 0 (Nat.zero_lt_succ _)
    obtain ⟨L, h1, h2⟩ := ih (Q := fun i d => Q (i + 1) d) (fun i hi => h (i + 1) (Nat.succ_lt_succ hi))
    refine ⟨y :: L, by rw [List.length_cons, h1], fun i d hd => ?_⟩
    cases i with
    | zero => simp at hd; rw [← hd]; exact hy
    | succ i => exact h2 i d (by simpa using hd)
theorem no_spot {w : World} {base : Nat} {a : Addr} {n : Nat} {cs : List Value} (h : w.cells? base a n = some cs) (hn : 0 < n) : a.spot = none := by
  obtain ⟨_, hl, hc⟩ := World.cells?_some h
  have h0 := hc 0 hn
  have : cs[0]? = some (cs[0]'(by omega)) := List.getElem?_eq_getElem _
  rw [this] at h0
  cases hs : a.spot with
  | none => rfl
  | some z =>
    unfold World.cell? Addr.add at h0
    simp [hs] at h0
    split at h0 <;> simp_all
theorem range_cells {w : World} {base g o n : Nat} {cs : List Value} (h : w.cells? base ⟨g, o, none⟩ n = some cs) : w.rangeAt g o cs := fun j v hj => by
  obtain ⟨_, hl, hc⟩ := World.cells?_some h
  have hjl : j < n := by rw [← hl]; exact (List.getElem?_eq_some_iff.1 hj).1
  have := hc j hjl
  rw [Addr.add_mid] at this
  rw [this]
  exact hj
end
end Go.Proofs.YtjilnigmbnmlfaaGreatDoor.P
end
section
namespace Go.Proofs.YtjilnigmbnmlfaaGreatDoor.P
open Go.RowKit Go.Proofs.YtjilnigmbnmlfaaGreatDoorW.PrintWords Go.Proofs.YtjilnigmbnmlfaaGreatDoorW.PrintLast Go.Proofs.YtjilnigmbnmlfaaGreatDoorW.PrintMore
set_option linter.unusedVariables false
set_option linter.unusedSimpArgs false
section
variable {P : Program} {ops : Array Oper} {rest : List Oper} {o : Oper} {a : Act} {w : World} {Q : Exit → Act → World → Prop}
end
end Go.Proofs.YtjilnigmbnmlfaaGreatDoor.P
end
