/-
  Plain laws: a law's first headers.
-/
import Derived.Test.YthjhbhgfckaklabDoorPhC
import Derived.Test.YthjhbhgfckaklabDoorPR7
namespace Go.Proofs.YthjhbhgfckaklabDoor.P
open Go.RowKit Go.Proofs.YthjhbhgfckaklabDoorW.PrintWords Go.Proofs.YthjhbhgfckaklabDoorW.PrintLast Go.Proofs.YthjhbhgfckaklabDoorW.PrintMore
set_option linter.unusedVariables false
set_option linter.unusedSimpArgs false
def few60 (h : S26) : S26 := ⟨few h.f0 60, few h.f1 60⟩
def fewB (l : List S26) (n : Nat) : List S26 := (l.take n).map few60
theorem fewB_small (l : List S26) (n : Nat) : (fewB l n).length ≤ n ∧ ∀ h ∈ fewB l n, h.f0.size ≤ 60 ∧ h.f1.size ≤ 60 := by
  unfold fewB
  refine ⟨by rw [List.length_map, List.length_take]; omega, fun h hh => ?_⟩
  simp only [List.mem_map] at hh
  obtain ⟨x, _, rfl⟩ := hh
  exact ⟨few_size _ _, few_size _ _⟩
theorem fewB_hs (l : List S26) (n : Nat) : Hs (fewB l n) := fun h hh => ⟨Nat.le_trans ((fewB_small l n).2 h hh).1 (by omega), Nat.le_trans ((fewB_small l n).2 h hh).2 (by omega)⟩
theorem fewB_more (l : List S26) (i : Nat) (h : i < l.length) : (l.take (i + 1)).map few60 = (l.take i).map few60 ++ [⟨few l[i].f0 60, few l[i].f1 60⟩] := by
  rw [List.take_add_one, List.getElem?_eq_getElem h, List.map_append]
  rfl
theorem few_loop (l : List S26) (n : Nat) (hn : n ≤ 1000) (d : Nat) : ∀ i : Nat, i + d = min n l.length → Ev (fun k => abatislaw14_few.l0 k l (n : Int) ((l.take i).map few60) (i : Int)) (fewB l n) := by
  induction d with
  | zero =>
    intro i hi
    have ht : (l.take i).map few60 = fewB l n := by
      unfold fewB
      obtain rfl : i = min n l.length := hi
      rw [← List.take_eq_take_min]
    have hj : Ev (fun k => abatislaw14_few.j1 k l (n : Int) (fewB l n) (i : Int) false) (fewB l n) := Ev.step (fun k => abatislaw14_few.j1.eq_2 ..) (ev_neg (by decide) (ev_now rfl))
    rw [ht]
    refine Ev.step (fun k => abatislaw14_few.l0.eq_2 ..) ?_
    by_cases c : (i : Int) < (l.length : Int)
    · refine ev_pos c ?_
      rw [decide_eq_false (by omega)]
      exact hj
    · exact ev_neg c hj
  | succ d ih =>
    intro i hi
    have hlt : i < l.length := by omega
    have e : wrap64 ((i : Int) + 1) = ((i + 1 : Nat) : Int) := by unfold wrap64; omega
    have hm := ih (i + 1) (by omega)
    rw [fewB_more l i hlt] at hm
    refine Ev.step (fun k => abatislaw14_few.l0.eq_2 ..) (ev_pos (by omega) ?_)
    rw [decide_eq_true (by omega)]
    refine Ev.step (fun k => abatislaw14_few.j1.eq_2 ..) (ev_pos rfl (ev_pos (by omega) (ev_pos (by omega) ?_)))
    rw [rdH_at l i hlt, e]
    refine ev_get (Few_eq _ 60) (ev_get (Few_eq _ 60) (ev_pos ?_ hm))
    rw [List.length_map, List.length_take]; omega
theorem few_ev (l : List S26) (n : Nat) (hn : n ≤ 1000) : Ev (fun k => abatislaw14_few.f k l (n : Int)) (fewB l n) := few_loop l n hn (min n l.length) 0 (by omega)
end Go.Proofs.YthjhbhgfckaklabDoor.P
