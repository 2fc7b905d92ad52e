/-
  What reads as data of api.Header is of its kind.
-/
import Derived.Test.YthjhbhgfckaklaaDoorOpen
namespace Go.Proofs.YthjhbhgfckaklaaDoor.P
open Go.RowKit Go.Deep Go.Proofs.YthjhbhgfckaklaaDoorW.PrintWords Go.Proofs.YthjhbhgfckaklaaDoorW.PrintLast Go.Proofs.YthjhbhgfckaklaaDoorW.PrintMore
open Go.ChangeShapes Go.WideShapes Go.ChangeAt
theorem len_two {α : Type} : ∀ {l : List α}, l.length = 2 → ∃ a b, l = [a, b]
  | [a, b], _ => ⟨a, b, rfl⟩
set_option maxRecDepth 100000 in
theorem opens_25 {H : Type} {enc : TypeId × Value → H} {W : World} {base : Nat} {spare : Nat → Bool} {held : Bool} :
    Opens enc Tryd.prog W base spare held 25 k25 (fun x_ => x_.f0.size ≤ 9223372036854775807 ∧ x_.f1.size ≤ 9223372036854775807) := by
  intro n cs x h
  obtain ⟨y0, y1, m, _, hl, h0, h1⟩ := trod_struct2 Tryd.underlying25 h
  have hc : Tryd.prog.cellsOf 9 = 1 := by kernel_rfl
  have hl2 : cs.length = 2 := hl.trans (by kernel_rfl)
  obtain ⟨c0, c1, rfl⟩ := len_two hl2
  simp only [hc] at h0 h1
  obtain ⟨s0, hk0, w0⟩ := opens_string Tryd.underlying9 _ _ _ h0
  obtain ⟨s1, hk1, w1⟩ := opens_string Tryd.underlying9 _ _ _ h1
  exact ⟨⟨s0, s1⟩, ⟨_, _, rfl, hk0, hk1⟩, w0, w1⟩
end Go.Proofs.YthjhbhgfckaklaaDoor.P
