/-
  Texts of the proof, put together.
-/
import Derived.Test.YthjhbhgfckaklaaDoorM2
import Derived.Deep.Slices
import Derived.ProofKit
import Derived.ChangeSame
section
namespace Go.Proofs.YthjhbhgfckaklaaDoor.P
open Go.RowKit Go.Deep Go.Proofs.YthjhbhgfckaklaaDoorW.PrintWords Go.Proofs.YthjhbhgfckaklaaDoorW.PrintLast Go.Proofs.YthjhbhgfckaklaaDoorW.PrintMore
set_option linter.unusedVariables false
set_option linter.unusedSimpArgs false
section
variable {H : Type} {enc : TypeId × Value → H} {P : Program} {W : World} {base : Nat} {spare : Nat → Bool} {held : Bool}
def Opens {α : Type} (enc : TypeId × Value → H) (P : Program) (W : World) (base : Nat) (spare : Nat → Bool) (held : Bool) (t : TypeId) (d : Kd α) (Wf : α → Prop) : Prop :=
 ∀ (n : Nat) (cs : List Value) (x : DataW H × List MemPlace), DataW.trod enc P W base spare held n t cs = some x → ∃ a, d.K W a cs ∧ Wf a
theorem opens_bool {t : TypeId} (ht : P.underlying t = some .bool) : Opens enc P W base spare held t Kd.bool (fun _ => True) := by
 intro n cs x h
 obtain ⟨m, rfl, _⟩ := DataW.trod_bool ht h
 exact ⟨m, rfl, trivial⟩
theorem opens_string {t : TypeId} (ht : P.underlying t = some .string) : Opens enc P W base spare held t Kd.string (fun s => s.size ≤ 9223372036854775807) := by
 intro n cs x h
 obtain ⟨m, rfl, _, hw⟩ := DataW.trod_string ht h
 exact ⟨m, rfl, hw⟩
theorem opens_slice {α : Type} {t e : TypeId} {d : Kd α} {Wf : α → Prop} (ht : P.underlying t = some (.slice e)) (hc : P.cellsOf e = d.sz) (h : Opens enc P W base spare held e d Wf) :
  Opens enc P W base spare held t (Kd.slice e d) (fun l => l.length ≤ 9223372036854775807 ∧ ∀ a ∈ l, Wf a) := by
 intro n cs x hx
 rcases open_slice ht hx with ⟨rfl, _⟩ | ⟨a, len, cap, m, n', D, Pl, rfl, hb, hl, hm, hmm, _, hel⟩
 ·exact ⟨[], ⟨none, 0, rfl, Nat.le_refl _, Kd.C_nil d W⟩, by simp, by simp⟩
 ·have hlm : len ≤ m := by rw [hmm]; split <;> omega
  have hch : ∀ i, i < len → ∃ y : α, (∃ c, c.length = d.sz ∧ d.K W y c ∧ ∀ j u, c[j]? = some u → W.cell? (a.add (i * d.sz + j)) = some u) ∧ Wf y := by
   intro i hi
   obtain ⟨cs', hcs, htr⟩ := hel i (by omega)
   obtain ⟨y, hK, hw⟩ := h _ _ _ htr
   rw [hc] at hcs
   obtain ⟨_, hlen, hcell⟩ := World.cells?_some hcs
   refine ⟨y, ⟨cs', hlen, hK, fun j u hj => ?_⟩, hw⟩
   have hjl : j < d.sz := by rw [← hlen]; exact (List.getElem?_eq_some_iff.1 hj).1
   have := hcell j hjl
   rw [hj] at this
   have ea : (a.add (i * d.sz)).add j = a.add (i * d.sz + j) := by
    unfold Addr.add
    by_cases h1 : i * d.sz = 0 <;> by_cases h2 : j = 0 <;> simp [h1, h2, Nat.add_assoc]
   rw [← ea]
   exact this
  rcases Nat.eq_zero_or_pos len with h0 | h0
  ·subst h0
   exact ⟨[], ⟨some a, cap, rfl, Nat.zero_le _, rfl, Nat.zero_le _, fun hp => absurd hp (Nat.lt_irrefl 0)⟩, by simp, by simp⟩
  ·obtain ⟨y0, _⟩ := hch 0 h0
   obtain ⟨f, hf⟩ : ∃ f : Nat → α, ∀ i, i < len → (∃ c, c.length = d.sz ∧ d.K W (f i) c ∧ ∀ j u, c[j]? = some u → W.cell? (a.add (i * d.sz + j)) = some u) ∧ Wf (f i) :=
    ⟨fun i => if hi : i < len then Classical.choose (hch i hi) else y0, fun i hi => by have := Classical.choose_spec (hch i hi); simpa only [dif_pos hi] using this⟩
   refine ⟨(List.range len).map f, ⟨some a, cap, by simp, by simpa using hl, ?_⟩, ?_, ?_⟩
   ·have hlen : ((List.range len).map f).length = len := by simp
    refine ⟨rfl, by rw [hlen]; exact Nat.le_trans hl hm, fun _ => ⟨a, rfl, fun j p hj => ?_⟩⟩
    have hjl : j < len := by
     have := (List.getElem?_eq_some_iff.1 hj).1
     simpa using this
    have : f j = p := by simpa [hjl] using hj
    subst this
    exact (hf j hjl).1
   ·simp; exact Nat.le_trans hl hm
   ·intro y hy
    simp only [List.mem_map, List.mem_range] at hy
    obtain ⟨i, hi, rfl⟩ := hy
    exact (hf i hi).2
end
end Go.Proofs.YthjhbhgfckaklaaDoor.P
end
section
namespace Go.Proofs.YthjhbhgfckaklaaDoor.P
open Go.RowKit Go.Deep Go.Proofs.YthjhbhgfckaklaaDoorW.PrintWords Go.Proofs.YthjhbhgfckaklaaDoorW.PrintLast Go.Proofs.YthjhbhgfckaklaaDoorW.PrintMore
open Go.ChangeShapes Go.WideShapes Go.ChangeAt
theorem len_five {α : Type} : ∀ {l : List α}, l.length = 5 → ∃ a b c d e, l = [a, b, c, d, e]
 | [a, b, c, d, e], _ => ⟨a, b, c, d, e, rfl⟩
set_option maxRecDepth 100000 in
theorem opens_41 {H : Type} {enc : TypeId × Value → H} {W : World} {base : Nat} {spare : Nat → Bool} {held : Bool} :
  Opens enc Tryd.prog W base spare held 41 k41 (fun x_ => x_.f0.size ≤ 9223372036854775807 ∧ x_.f1.size ≤ 9223372036854775807 ∧ x_.f2.size ≤ 9223372036854775807 ∧ (x_.f3.length ≤ 9223372036854775807 ∧ ∀ y_ ∈ x_.f3, y_.size ≤ 9223372036854775807) ∧ True) := by
 intro n cs x h
 obtain ⟨xs, m, _, _, hl, hlen, hf⟩ := DataW.trod_struct Tryd.underlying41 h
 have hl5 : cs.length = 5 := hl.trans (by kernel_rfl)
 obtain ⟨c0, c1, c2, c3, c4, rfl⟩ := len_five hl5
 have hS : Tryd.prog.cellsOf 9 = 1 := by kernel_rfl
 have hL : Tryd.prog.cellsOf 37 = 1 := by kernel_rfl
 have hB : Tryd.prog.cellsOf 4 = 1 := by kernel_rfl
 obtain ⟨y0, y1, y2, y3, y4, rfl⟩ := len_five hlen
 have h0 : DataW.trod enc Tryd.prog W base spare held m 9 (([c0, c1, c2, c3, c4].drop 0).take (Tryd.prog.cellsOf 9)) = some y0 := hf 0 _ rfl
 have h1 : DataW.trod enc Tryd.prog W base spare held m 9 (([c0, c1, c2, c3, c4].drop 1).take (Tryd.prog.cellsOf 9)) = some y1 := hf 1 _ rfl
 have h2 : DataW.trod enc Tryd.prog W base spare held m 9 (([c0, c1, c2, c3, c4].drop 2).take (Tryd.prog.cellsOf 9)) = some y2 := hf 2 _ rfl
 have h3 : DataW.trod enc Tryd.prog W base spare held m 37 (([c0, c1, c2, c3, c4].drop 3).take (Tryd.prog.cellsOf 37)) = some y3 := hf 3 _ rfl
 have h4 : DataW.trod enc Tryd.prog W base spare held m 4 (([c0, c1, c2, c3, c4].drop 4).take (Tryd.prog.cellsOf 4)) = some y4 := hf 4 _ rfl
 rw [hS] at h0 h1 h2
 rw [hL] at h3
 rw [hB] at h4
 obtain ⟨s0, hk0, w0⟩ := opens_string Tryd.underlying9 _ _ _ h0
 obtain ⟨s1, hk1, w1⟩ := opens_string Tryd.underlying9 _ _ _ h1
 obtain ⟨s2, hk2, w2⟩ := opens_string Tryd.underlying9 _ _ _ h2
 obtain ⟨s3, hk3, w3⟩ := opens_slice Tryd.underlying37 (by kernel_rfl) (opens_string Tryd.underlying9) _ _ _ h3
 obtain ⟨s4, hk4, w4⟩ := opens_bool Tryd.underlying4 _ _ _ h4
 exact ⟨⟨s0, s1, s2, s3, s4⟩, ⟨_, _, rfl, hk0, _, _, rfl, hk1, _, _, rfl, hk2, _, _, rfl, hk3, hk4⟩, w0, w1, w2, w3, w4⟩
end Go.Proofs.YthjhbhgfckaklaaDoor.P
end
