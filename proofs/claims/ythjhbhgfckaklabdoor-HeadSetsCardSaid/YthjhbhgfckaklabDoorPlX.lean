/-
  Plain law: HeadSets.
-/
import Derived.Test.YthjhbhgfckaklabDoorPlW
import Derived.Test.YthjhbhgfckaklabDoorPE31
import Derived.Test.YthjhbhgfckaklabDoorHeadL
namespace Go.Proofs.YthjhbhgfckaklabDoor.P
open Go.RowKit Go.Proofs.YthjhbhgfckaklabDoorW.PrintWords Go.Proofs.YthjhbhgfckaklabDoorW.PrintLast Go.Proofs.YthjhbhgfckaklabDoorW.PrintMore
set_option linter.unusedVariables false
set_option linter.unusedSimpArgs false
theorem HeadSets_ev (l : List S26) (a1 a2 : ByteArray) : Ev (fun k => abatislaw14_HeadSets.f k l a1 a2) true := by
  have h1 : abatisref01_Few.f a1 20 = some (few a1 20) := Few_eq a1 20
  have h2 : abatisref01_Few.f a2 20 = some (few a2 20) := Few_eq a2 20
  have h3 : Ev (fun k => abatislaw14_few.f k l 10) (fewB l 10) := few_ev l 10 (by omega)
  have s1 := few_size a1 20
  have s2 := few_size a2 20
  have s3 := (fewB_small l 10).1
  have s4 := fewB_hs l 10
  unfold abatislaw14_HeadSets.f
  generalize few a1 20 = n at *
  generalize few a2 20 = v at *
  generalize fewB l 10 = q at *
  have t1 := setB_hs n v (by omega) (by omega) q s4
  have t2 := setB_length n v q
  have t3 := dropB_length n q
  have t4 := dropB_hs n q s4
  have e1 := Set_eq n v (by omega) q (by omega) s4
  have e2 := Drop_eq n (by omega) (setB n v q false) (by omega) t1
  have e3 := All_eq n (by omega) (setB n v q false) (by omega) t1
  have e4 := Get_eq n (by omega) (dropB n q) (by omega) t4
  have e5 := All_eq n (by omega) (dropB n q) (by omega) t4
  have e6 := Set_eq n v (by omega) (setB n v q false) (by omega) t1
  rw [dropB_set] at e2
  rw [allB_set] at e3
  rw [allB_drop] at e4 e5
  rw [setB_set] at e6
  have ew : wrap64 (((dropB n q).length : Int) + 1) = ((setB n v q false).length : Int) := by rw [t2]; unfold wrap64; omega
  refine Ev.bind h3 (ev_get h1 (ev_get h2 (ev_get e1 (ev_get e2 (ev_get e3 (ev_get e4 (ev_pos rfl (ev_neg (by decide) (ev_pos ew.symm (ev_get e5 ?_))))))))))
  refine Ev.step (fun k => abatislaw14_HeadSets.j0.eq_2 ..) (ev_neg (by decide) (ev_pos (by simp) (ev_pos rfl ?_)))
  exact Ev.bind (refDrop_ev n (by omega) q (by omega) s4) (Ev.bind (refSameH_ev _ (by omega)) (ev_pos rfl (ev_get e6 (Ev.bind (refSameH_ev _ (by omega)) (ev_pos rfl (Ev.bind lives14_ev (Ev.now _)))))))
end Go.Proofs.YthjhbhgfckaklabDoor.P
