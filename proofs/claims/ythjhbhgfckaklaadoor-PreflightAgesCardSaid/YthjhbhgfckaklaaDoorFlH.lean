/-
  A row of headers of the call's own, as cells.
-/
import Derived.Laws.CopyRow
import Derived.Laws.OwnMore
import Derived.Lib.SliceRun
import Derived.Test.YthjhbhgfckaklaaDoorBase
namespace Go.Proofs.YthjhbhgfckaklaaDoor.P
open Go.RowKit Go.Proofs.YthjhbhgfckaklaaDoorW.PrintWords Go.Proofs.YthjhbhgfckaklaaDoorW.PrintLast Go.Proofs.YthjhbhgfckaklaaDoorW.PrintMore
set_option linter.unusedVariables false
set_option linter.unusedSimpArgs false

/-! ### headers' cells, one behind the other -/
def flH : List S25 → List Value
  | [] => []
  | h :: l => .string h.f0 :: .string h.f1 :: flH l
theorem flH_length : ∀ l, (flH l).length = l.length * 2
  | [] => rfl
  | h :: l => by
    show (flH l).length + 1 + 1 = _
    rw [flH_length l, List.length_cons]; omega
theorem flH_append : ∀ a b, flH (a ++ b) = flH a ++ flH b
  | [], b => rfl
  | h :: a, b => by show _ :: _ :: flH (a ++ b) = _; rw [flH_append a b]; rfl
theorem flH_one : ∀ (l : List S25) (u : Value), u ∈ flH l → u.oneCell' = true
  | [], u, h => by cases h
  | x :: l, u, h => by
    rcases List.mem_cons.1 h with rfl | h
    · rfl
    · rcases List.mem_cons.1 h with rfl | h
      · rfl
      · exact flH_one l u h
theorem flH_get : ∀ (l : List S25) (j : Nat) (h : j < l.length), (flH l)[j * 2]? = some (.string l[j].f0) ∧ (flH l)[j * 2 + 1]? = some (.string l[j].f1)
  | x :: l, 0, _ => ⟨rfl, rfl⟩
  | x :: l, j + 1, h => by
    have ih := flH_get l j (by simpa using h)
    rw [show (j + 1) * 2 = j * 2 + 1 + 1 from by omega]
    exact ih
theorem flH_take : ∀ (l : List S25) (j : Nat), (flH l).take (j * 2) = flH (l.take j)
  | [], j => by simp [flH]
  | x :: l, 0 => by simp [flH]
  | x :: l, j + 1 => by
    rw [show (j + 1) * 2 = j * 2 + 1 + 1 from by omega]
    show _ :: _ :: (flH l).take (j * 2) = _
    rw [flH_take l j]; rfl
theorem flH_drop : ∀ (l : List S25) (j : Nat), (flH l).drop (j * 2) = flH (l.drop j)
  | [], j => by simp [flH]
  | x :: l, 0 => by simp [flH]
  | x :: l, j + 1 => by
    rw [show (j + 1) * 2 = j * 2 + 1 + 1 from by omega]
    show (flH l).drop (j * 2) = _
    rw [flH_drop l j]; rfl
theorem flH_set : ∀ (l : List S25) (j : Nat) (x : S25), ((flH l).set (j * 2) (.string x.f0)).set (j * 2 + 1) (.string x.f1) = flH (l.set j x)
  | [], j, x => by simp [flH]
  | y :: l, 0, x => rfl
  | y :: l, j + 1, x => by
    rw [show (j + 1) * 2 = j * 2 + 1 + 1 from by omega]
    show _ :: _ :: ((flH l).set (j * 2) (.string x.f0)).set (j * 2 + 1) (.string x.f1) = _
    rw [flH_set l j x]; rfl
theorem reps_flH {w : World} : ∀ (l : List S25) (inner : List Value), Reps (k25.K w) 2 l inner → inner = flH l
  | [], inner, h => List.eq_nil_of_length_eq_zero (by simpa using h.1)
  | x :: l, inner, h => by
    obtain ⟨h1, h2⟩ := h
    have h0 := k25_open (h2 0 x rfl)
    rw [Nat.zero_mul, List.drop_zero] at h0
    have hr : Reps (k25.K w) 2 l (inner.drop 2) := ⟨by rw [List.length_drop, h1, List.length_cons]; omega, fun j p hj => by
      have := h2 (j + 1) p hj
      rw [List.drop_drop, show 2 + j * 2 = (j + 1) * 2 from by omega]
      exact this⟩
    rw [← List.take_append_drop 2 inner, h0, reps_flH l _ hr]
    rfl
theorem flH_reps (w : World) (base : Nat) (ok : Nat → Prop) : ∀ l : List S25, Reps (k25.M w base ok) 2 l (flH l) := fun l => by
  refine ⟨flH_length l, fun j p hj => ?_⟩
  obtain ⟨hlt, rfl⟩ := List.getElem?_eq_some_iff.1 hj
  rw [flH_drop, List.drop_eq_getElem_cons hlt]
  show k25.M w base ok l[j] (List.take 2 (_ :: _ :: flH (l.drop (j + 1))))
  rw [List.take_succ_cons, List.take_succ_cons, List.take_zero]
  exact k25_mkM w base ok l[j]
theorem flH_repsK (w : World) (l : List S25) : Reps (k25.K w) 2 l (flH l) := (flH_reps w 0 (fun _ => True) l).imp_ fun _ _ h => k25.K_of_M h
/-- What is read, as cells. -/
theorem cells_flH {w : World} {ad : Addr} {n : Nat} {l : List S25} (h : Kd.C k25 w (some ad) n l) : ∀ j u, (flH l)[j]? = some u → w.cell? (ad.add j) = some u := by
  obtain ⟨inner, hr, hc⟩ := ReadsRow.inner_ h
  rw [← reps_flH l inner hr]
  exact hc
theorem R_flH {w : World} {base : Nat} {v : Value} {l : List S25} (h : w.ownsRow base 25 2 v l.length (flH l)) : Kd.R k25 25 w base (fun _ => True) v l :=
  ⟨fun _ _ => trivial, flH l, h, flH_reps w base _ l⟩
theorem C_flH {w : World} {base : Nat} {A : Option Addr} {c : Nat} {l : List S25} (h : w.ownsRow base 25 2 (.slice A l.length c) l.length (flH l)) : Kd.C k25 w A l.length l := by
  obtain ⟨A', c', he, hr⟩ := own_reads_row h (flH_repsK w l) rfl
  obtain ⟨rfl, -, rfl⟩ := Value.slice.inj he
  exact hr
/-- One header of a row of the call's own: its cells, none frozen. -/
theorem flH_at {W : World} {base g n cap : Nat} {l : List S25} (h : W.ownsRow base 25 2 (.slice (some ⟨g, 0, none⟩) n cap) n (flH l)) (hn : l.length = n) (j : Nat) (hj : j < l.length) :
    W.cell? ⟨g, j * 2, none⟩ = some (.string l[j].f0) ∧ W.cell? ⟨g, j * 2 + 1, none⟩ = some (.string l[j].f1) := by
  have h0 := h.cells (g := g) rfl (j * 2) _ (flH_get l j hj).1
  have h1 := h.cells (g := g) rfl (j * 2 + 1) _ (flH_get l j hj).2
  rw [add_plain] at h0 h1
  exact ⟨h0, h1⟩
theorem own_thaw {W : World} {base g n cap size : Nat} {e : TypeId} {xs : List Value} (h : W.ownsRow base e size (.slice (some ⟨g, 0, none⟩) n cap) n xs) (j : Nat) : W.frozen? ⟨g, j, none⟩ = false := by
  rcases h.2 with ⟨h', _⟩ | ⟨g', cap', cur, h', _, hh, _⟩
  · cases h'
  · have : g = g' := by injection h' with h'; injection h' with h'; injection h' with h'
    subst this
    simp [World.frozen?, hh]
theorem grown_trans {a b c : World} {row : Option Nat} (h : a.grownBy b row) (k : b.grownBy c row) : a.grownBy c row :=
  ⟨k.os.trans h.os, k.tape.trans h.tape, k.output.trans h.output, Nat.le_trans h.size k.size, fun i hi hne => (k.block i (Nat.lt_of_lt_of_le hi h.size) hne).trans (h.block i hi hne)⟩
theorem grown_of_below {a b : World} (row : Option Nat) (h : Below a.heap.size a b) : a.grownBy b row := ⟨h.os, h.tape, h.output, h.size, fun i hi _ => h.block i hi⟩

end Go.Proofs.YthjhbhgfckaklaaDoor.P
