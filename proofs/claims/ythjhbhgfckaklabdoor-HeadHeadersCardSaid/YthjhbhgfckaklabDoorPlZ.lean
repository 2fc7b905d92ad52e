/-
  Plain law: HeadHeaders.
-/
import Derived.Test.YthjhbhgfckaklabDoorPlY
import Derived.Test.YthjhbhgfckaklabDoorPE41
import Derived.Test.YthjhbhgfckaklabDoorHeadL
namespace Go.Proofs.YthjhbhgfckaklabDoor.P
open Go.RowKit Go.Proofs.YthjhbhgfckaklabDoorW.PrintWords Go.Proofs.YthjhbhgfckaklabDoorW.PrintLast Go.Proofs.YthjhbhgfckaklabDoorW.PrintMore
set_option linter.unusedVariables false
set_option linter.unusedSimpArgs false
theorem Around_some (a m : Int) (hm : 0 < m) (ha : (Lit.int .i64 a).wf = true) : ∃ n : Int, 0 ≤ n ∧ n < m ∧ abatisref01_Around.f a m = some n := by
  have hb : -9223372036854775808 ≤ a ∧ a ≤ 9223372036854775807 := by
    simp [Lit.wf] at ha
    exact ha
  unfold abatisref01_Around.f
  by_cases h : a < 0
  · rw [if_pos h, if_neg (by omega)]
    have e : wrap64 (-(wrap64 (a + 1))) = -(a + 1) := by unfold wrap64; omega
    rw [e, Int.tmod_eq_emod_of_nonneg (by omega)]
    exact ⟨_, Int.emod_nonneg _ (by omega), Int.emod_lt_of_pos _ hm, rfl⟩
  · rw [if_neg h, if_neg (by omega), Int.tmod_eq_emod_of_nonneg (by omega)]
    exact ⟨_, Int.emod_nonneg _ (by omega), Int.emod_lt_of_pos _ hm, rfl⟩
theorem headers_round (q : List S26) (v : ByteArray) (ns : List ByteArray) (hq : q.length ≤ 12) (hh : Hs q) (hv : v.size ≤ 1000) (hn : ns.length ≤ 2) (hs : ∀ n ∈ ns, n.size ≤ 1000) (d : Nat) : ∀ i : Nat, i + d = ns.length →
    Ev (fun k => abatislaw14_HeadHeaders.l0 k q v ns q (i : Int)) true := by
  induction d with
  | zero =>
    intro i hi
    exact Ev.step (fun k => abatislaw14_HeadHeaders.l0.eq_2 ..) (ev_neg (by omega) (Ev.bind lives14_ev (Ev.now _)))
  | succ d ih =>
    intro i hi
    have hlt : i < ns.length := by omega
    have e : wrap64 ((i : Int) + 1) = ((i + 1 : Nat) : Int) := by unfold wrap64; omega
    have hnx := hs ns[i] (List.getElem_mem hlt)
    have hnext := ih (i + 1) (by omega)
    have t1 := setB_hs ns[i] v (by omega) (by omega) q hh
    have t2 := setB_length ns[i] v q
    have t3 := dropB_length ns[i] q
    have t5 := allB_length ns[i] q
    have t6 := (listV_length (allB ns[i] q) (allB_size ns[i] q hh))
    have eG := Get_eq ns[i] (by omega) (setB ns[i] v q false) (by omega) t1
    rw [allB_set] at eG
    have hr : rdOf ByteArray.empty ns (i : Int) = ns[i] := rdOf_at ns i hlt
    -- what follows the first two tests
    have h3 : Ev (fun k => abatislaw14_HeadHeaders.j3 k q v ns q (i : Int) (setB ns[i] v q false) false) true := by
      refine Ev.step (fun k => abatislaw14_HeadHeaders.j3.eq_2 ..) (ev_neg (by decide) (ev_pos (by omega) (ev_pos (by omega) ?_)))
      rw [hr, e]
      refine Ev.bind (List_ev ns[i] (by omega) q (by omega) hh) (Ev.bind (refList_ev ns[i] (by omega) q (by omega) hh) (Ev.bind (same_ev _ (by omega)) (ev_pos rfl ?_)))
      refine Ev.bind (refSet_ev ns[i] v (by omega) q (by omega) hh) (Ev.bind (refSameH_ev _ (by omega)) (ev_pos rfl ?_))
      refine ev_get (Drop_eq ns[i] (by omega) q (by omega) hh) (Ev.bind (refDrop_ev ns[i] (by omega) q (by omega) hh) (Ev.bind (refSameH_ev _ (by omega)) (ev_pos rfl ?_)))
      exact Ev.bind (refSameH_ev _ (by omega)) (ev_pos rfl hnext)
    refine Ev.step (fun k => abatislaw14_HeadHeaders.l0.eq_2 ..) (ev_pos (by omega) (ev_pos (by omega) ?_))
    rw [hr]
    refine Ev.bind (refAll_ev ns[i] (by omega) q (by omega) hh) (ev_get (Get_eq ns[i] (by omega) q (by omega) hh) (ev_get (Set_eq ns[i] v (by omega) q (by omega) hh) (ev_get eG (ev_get (All_eq ns[i] (by omega) q (by omega) hh) (Ev.bind (same_ev _ (by omega)) (ev_pos rfl ?_))))))
    cases hal : allB ns[i] q with
    | nil =>
      refine ev_neg (by simp) (ev_pos rfl (Ev.step (fun k => abatislaw14_HeadHeaders.j2.eq_2 ..) (ev_neg (by show ¬ (!true) = true; decide) (ev_neg (by show ¬ false = true; decide) ?_))))
      show Ev (fun k => abatislaw14_HeadHeaders.j3 k q v ns q (i : Int) (setB ns[i] v q false) (ByteArray.empty.toList != ([] : List UInt8))) true
      rw [show (ByteArray.empty.toList != ([] : List UInt8)) = false by decide +kernel]
      exact h3
    | cons x r =>
      refine ev_neg (by simp) (ev_pos rfl (Ev.step (fun k => abatislaw14_HeadHeaders.j2.eq_2 ..) (ev_neg (by show ¬ (!true) = true; decide) (ev_pos rfl (ev_pos (by simp) (ev_pos rfl ?_))))))
      exact h3
theorem HeadHeaders_ev (l : List S26) (a1 a2 : ByteArray) (a3 : Int) (ha : (Lit.int .i64 a3).wf = true) : Ev (fun k => abatislaw14_HeadHeaders.f k l a1 a2 a3) true := by
  have h1 : abatisref01_Few.f a1 30 = some (few a1 30) := Few_eq a1 30
  have h2 : abatisref01_Few.f a2 30 = some (few a2 30) := Few_eq a2 30
  have h3 : Ev (fun k => abatislaw14_few.f k l 12) (fewB l 12) := few_ev l 12 (by omega)
  have s1 := few_size a1 30
  have s2 := few_size a2 30
  have s3 := (fewB_small l 12).1
  have s4 := fewB_hs l 12
  unfold abatislaw14_HeadHeaders.f
  generalize few a1 30 = n at *
  generalize few a2 30 = v at *
  generalize fewB l 12 = q at *
  have h0 : ∀ ns : List ByteArray, ns.length ≤ 2 → (∀ n ∈ ns, n.size ≤ 1000) → Ev (fun k => abatislaw14_HeadHeaders.j0 k q v ns) true := fun ns hn hs =>
    Ev.step (fun k => abatislaw14_HeadHeaders.j0.eq_2 ..) (ev_pos (by rw [List.length_nil]; omega) (headers_round q v ns (by omega) s4 (by omega) hn hs ns.length 0 (by omega)))
  refine Ev.bind h3 (ev_get h2 (ev_get h1 (ev_get rfl ?_)))
  by_cases c : (q.length : Int) > 0
  · obtain ⟨m, m0, m1, m2⟩ := Around_some a3 (q.length : Int) (by omega) ha
    obtain ⟨j, rfl⟩ : ∃ j : Nat, m = (j : Int) := ⟨m.toNat, by omega⟩
    have hlt : j < q.length := by omega
    have hz := s4 _ (List.getElem_mem hlt)
    refine ev_pos c (ev_get m2 (ev_pos m0 (ev_pos m1 ?_)))
    rw [rdH_at q j hlt]
    refine Ev.bind (refLowerG_ev q[j].f0 (by omega)) (ev_pos (by simp) (h0 _ (by simp) ?_))
    intro x hx
    rcases List.mem_cons.1 hx with rfl | hx
    · omega
    · rcases List.mem_cons.1 hx with rfl | hx
      · rw [size_lowS]; omega
      · cases hx
  · refine ev_neg c (h0 _ (by simp) ?_)
    intro x hx
    rcases List.mem_cons.1 hx with rfl | hx
    · omega
    · cases hx
end Go.Proofs.YthjhbhgfckaklabDoor.P
