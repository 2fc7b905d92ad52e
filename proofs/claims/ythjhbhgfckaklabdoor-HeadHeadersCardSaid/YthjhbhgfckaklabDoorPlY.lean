/-
  Plain laws: the document's Set.
-/
import Derived.Test.YthjhbhgfckaklabDoorPlW
import Derived.Test.YthjhbhgfckaklabDoorPR5
namespace Go.Proofs.YthjhbhgfckaklabDoor.P
open Go.RowKit Go.Proofs.YthjhbhgfckaklabDoorW.PrintWords Go.Proofs.YthjhbhgfckaklabDoorW.PrintLast Go.Proofs.YthjhbhgfckaklabDoorW.PrintMore
set_option linter.unusedVariables false
set_option linter.unusedSimpArgs false
theorem refSet_loop (n v : ByteArray) (hn : n.size ≤ 1000) (l : List S26) (hl : l.length ≤ 1000) (hh : Hs l) (d : Nat) : ∀ (i : Nat) (out : List S26) (b : Bool), i + d = l.length → out.length ≤ i →
    Ev (fun k => abatisref14_Set.l0 k l n v out b (i : Int)) (out ++ setB n v (l.drop i) b) := by
  induction d with
  | zero =>
    intro i out b hi ho
    rw [List.drop_of_length_le (by omega), setB]
    refine Ev.step (fun k => abatisref14_Set.l0.eq_2 ..) (ev_neg (by omega) ?_)
    cases b with
    | true => exact ev_pos rfl (ev_now (List.append_nil out).symm)
    | false => exact ev_neg (by decide) (ev_pos (by omega) (ev_now rfl))
  | succ d ih =>
    intro i out b hi ho
    have hlt : i < l.length := by omega
    have e : wrap64 ((i : Int) + 1) = ((i + 1 : Nat) : Int) := by unfold wrap64; omega
    have hs := hh _ (List.getElem_mem hlt)
    rw [List.drop_eq_getElem_cons hlt, setB]
    refine Ev.step (fun k => abatisref14_Set.l0.eq_2 ..) (ev_pos (by omega) (ev_pos (by omega) ?_))
    rw [rdH_at l i hlt, e]
    refine Ev.bind (refLikeG_ev l[i].f0 n (by omega) (by omega)) ?_
    by_cases c : likeB l[i].f0 n = true
    · rw [if_pos c]
      refine ev_pos c ?_
      cases b with
      | true => exact ev_pos rfl (ih (i + 1) out true (by omega) (by omega))
      | false =>
        have hr := ih (i + 1) (out ++ [⟨l[i].f0, v⟩]) true (by omega) (by rw [List.length_append, List.length_cons, List.length_nil]; omega)
        rw [List.append_assoc, List.singleton_append] at hr
        exact ev_neg (by decide) (ev_pos (by omega) hr)
    · rw [if_neg c]
      have hr := ih (i + 1) (out ++ [l[i]]) b (by omega) (by rw [List.length_append, List.length_cons, List.length_nil]; omega)
      rw [List.append_assoc, List.singleton_append] at hr
      exact ev_neg c (ev_pos (by omega) hr)
theorem refSet_ev (n v : ByteArray) (hn : n.size ≤ 1000) (l : List S26) (hl : l.length ≤ 1000) (hh : Hs l) : Ev (fun k => abatisref14_Set.f k l n v) (setB n v l false) := refSet_loop n v hn l hl hh l.length 0 [] false (by omega) (by simp)
end Go.Proofs.YthjhbhgfckaklabDoor.P
