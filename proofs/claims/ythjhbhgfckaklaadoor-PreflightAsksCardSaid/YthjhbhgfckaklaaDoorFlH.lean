/-
  A row of headers of the call's own, as cells.
-/
import Derived.Laws.CopyRow
import Derived.Laws.OwnMore
import Derived.Lib.SliceRun
import Derived.Test.YthjhbhgfckaklaaDoorM4
namespace Go.Proofs.YthjhbhgfckaklaaDoor.P
open Go.RowKit Go.Proofs.YthjhbhgfckaklaaDoorW.PrintWords Go.Proofs.YthjhbhgfckaklaaDoorW.PrintLast Go.Proofs.YthjhbhgfckaklaaDoorW.PrintMore
set_option linter.unusedVariables false
set_option linter.unusedSimpArgs false
def flH : List S25 → List Value
 | [] => []
 | h :: l => .string h.f0 :: .string h.f1 :: flH l
theorem flH_length : ∀ l, (flH l).length = l.length * 2
 | [] => rfl
 | h :: l => by
  show (flH l).length + 1 + 1 = _
  rw [flH_length l, List.length_cons]; omega
theorem flH_append : ∀ a b, flH (a ++ b) = flH a ++ flH b
 | [], b => rfl
 | h :: a, b => by show _ :: _ :: flH (a ++ b) = _; rw [flH_append a b]; rfl
theorem flH_drop : ∀ (l : List S25) (j : Nat), (flH l).drop (j * 2) = flH (l.drop j)
 | [], j => by simp [flH]
 | x :: l, 0 => by simp [flH]
 | x :: l, j + 1 => by
  rw [show (j + 1) * 2 = j * 2 + 1 + 1 from by omega]
  show (flH l).drop (j * 2) = _
  rw [flH_drop l j]; rfl
theorem flH_reps (w : World) (base : Nat) (ok : Nat → Prop) : ∀ l : List S25, Reps (k25.M w base ok) 2 l (flH l) := fun l => by
 refine ⟨flH_length l, fun j p hj => ?_⟩
 obtain ⟨hlt, rfl⟩ := List.getElem?_eq_some_iff.1 hj
 rw [flH_drop, List.drop_eq_getElem_cons hlt]
 show k25.M w base ok l[j] (List.take 2 (_ :: _ :: flH (l.drop (j + 1))))
 rw [List.take_succ_cons, List.take_succ_cons, List.take_zero]
 exact k25_mkM w base ok l[j]
theorem R_flH {w : World} {base : Nat} {v : Value} {l : List S25} (h : w.ownsRow base 25 2 v l.length (flH l)) : Kd.R k25 25 w base (fun _ => True) v l :=
 ⟨fun _ _ => trivial, flH l, h, flH_reps w base _ l⟩
theorem grown_of_below {a b : World} (row : Option Nat) (h : Below a.heap.size a b) : a.grownBy b row := ⟨h.os, h.tape, h.output, h.size, fun i hi _ => h.block i hi⟩
end Go.Proofs.YthjhbhgfckaklaaDoor.P
