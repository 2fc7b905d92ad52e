/-
  Plain laws on headers' values, their pieces, policies.
-/
import Derived.Test.YthjhbhgfckaklaaDoorPpB
namespace Go.Proofs.YthjhbhgfckaklaaDoor.P
open Go.RowKit Go.Proofs.YthjhbhgfckaklaaDoorW.PrintWords Go.Proofs.YthjhbhgfckaklaaDoorW.PrintLast Go.Proofs.YthjhbhgfckaklaaDoorW.PrintMore
set_option linter.unusedVariables false
set_option linter.unusedSimpArgs false

theorem rdH_at (l : List S25) (i : Nat) (h : i < l.length) : rd_T25 l (i : Int) = l[i] := by
  unfold rd_T25
  rw [Int.toNat_natCast, List.getD_eq_getElem?_getD, List.getElem?_eq_getElem h]
  rfl
/-- The values of a name. -/
def allB (n : ByteArray) : List S25 → List ByteArray
  | [] => []
  | h :: l => if likeB h.f0 n = true then h.f1 :: allB n l else allB n l
def Hs (l : List S25) : Prop := ∀ h ∈ l, h.f0.size ≤ 1000 ∧ h.f1.size ≤ 1000
theorem Hs.tail {h : S25} {l : List S25} (hh : Hs (h :: l)) : Hs l := fun x hx => hh x (List.mem_cons_of_mem _ hx)
theorem ofList_eq (n : ByteArray) (hn : n.size ≤ 1000) : ∀ (l : List S25) (i : Nat), Hs l → ∃ xs, ofList n l i = some xs ∧ valsOf xs = allB n l
  | [], i, _ => ⟨[], rfl, rfl⟩
  | h :: l, i, hh => by
    obtain ⟨xs, hx, hv⟩ := ofList_eq n hn l (i + 1) hh.tail
    have hs := hh h List.mem_cons_self
    unfold ofList allB
    rw [LikeG_eq h.f0 n (by omega) (by omega)]
    refine ⟨if likeB h.f0 n = true then (i, h) :: xs else xs, ?_, ?_⟩
    · show ((ofList n l (i + 1)).bind fun r => some (if likeB h.f0 n = true then (i, h) :: r else r)) = _
      rw [hx]
      rfl
    · split
      · show h.f1 :: valsOf xs = _
        rw [hv]
      · exact hv
theorem All_eq (n : ByteArray) (hn : n.size ≤ 1000) (l : List S25) (hl : l.length ≤ 1000) (hh : Hs l) : head_All.f l n = some (allB n l) := by
  obtain ⟨xs, hx, hv⟩ := ofList_eq n hn l 0 hh
  unfold head_All.f
  rw [if_pos (by omega), hx]
  show some (valsOf xs) = _
  rw [hv]
theorem allB_length (n : ByteArray) : ∀ l : List S25, (allB n l).length ≤ l.length
  | [] => Nat.le_refl _
  | h :: l => by
    have := allB_length n l
    unfold allB
    split
    · rw [List.length_cons, List.length_cons]; omega
    · rw [List.length_cons]; omega
theorem allB_size (n : ByteArray) : ∀ l : List S25, Hs l → ∀ v ∈ allB n l, v.size ≤ 1000
  | [], _, v, hv => by cases hv
  | h :: l, hh, v, hv => by
    have hs := hh h List.mem_cons_self
    unfold allB at hv
    split at hv
    · rcases List.mem_cons.1 hv with rfl | hv
      · exact hs.2
      · exact allB_size n l hh.tail v hv
    · exact allB_size n l hh.tail v hv
theorem allB_like (n m : ByteArray) (h : lowS n = lowS m) : ∀ l : List S25, allB n l = allB m l
  | [] => rfl
  | x :: l => by
    unfold allB
    have : likeB x.f0 n = likeB x.f0 m := by unfold likeB; rw [h]
    rw [this, allB_like n m h l]
theorem allB_append (n : ByteArray) : ∀ a b : List S25, allB n (a ++ b) = allB n a ++ allB n b
  | [], b => rfl
  | x :: a, b => by
    have e1 : ∀ l, allB n (x :: l) = if likeB x.f0 n = true then x.f1 :: allB n l else allB n l := fun _ => rfl
    rw [List.cons_append, e1, e1, allB_append n a b]
    split <;> rfl
theorem refAll_loop (n : ByteArray) (hn : n.size ≤ 1000) (l : List S25) (hl : l.length ≤ 1000) (hh : Hs l) (d : Nat) : ∀ (i : Nat) (out : List ByteArray), i + d = l.length → out.length ≤ i →
    Ev (fun k => abatisref14_All.l0 k l n out (i : Int)) (out ++ allB n (l.drop i)) := by
  induction d with
  | zero =>
    intro i out hi ho
    rw [List.drop_of_length_le (by omega)]
    exact Ev.step (fun k => abatisref14_All.l0.eq_2 ..) (ev_neg (by omega) (ev_now (List.append_nil out).symm))
  | succ d ih =>
    intro i out hi ho
    have hlt : i < l.length := by omega
    have e : wrap64 ((i : Int) + 1) = ((i + 1 : Nat) : Int) := by unfold wrap64; omega
    have hs := hh _ (List.getElem_mem hlt)
    rw [List.drop_eq_getElem_cons hlt]
    unfold allB
    refine Ev.step (fun k => abatisref14_All.l0.eq_2 ..) (ev_pos (by omega) (ev_pos (by omega) ?_))
    rw [rdH_at l i hlt, e]
    refine Ev.bind (refLikeG_ev l[i].f0 n (by omega) (by omega)) ?_
    by_cases c : likeB l[i].f0 n = true
    · rw [if_pos c]
      have hr := ih (i + 1) (out ++ [l[i].f1]) (by omega) (by rw [List.length_append, List.length_cons, List.length_nil]; omega)
      rw [List.append_assoc, List.singleton_append] at hr
      exact ev_pos c (ev_pos (by omega) hr)
    · rw [if_neg c]
      exact ev_neg c (ih (i + 1) out (by omega) (by omega))
theorem refAll_ev (n : ByteArray) (hn : n.size ≤ 1000) (l : List S25) (hl : l.length ≤ 1000) (hh : Hs l) : Ev (fun k => abatisref14_All.f k l n) (allB n l) := refAll_loop n hn l hl hh l.length 0 [] (by omega) (by simp)

/-! ### pieces without blanks at their ends -/
def trimB (s : ByteArray) : ByteArray := ⟨(Lib.trimS s.data.toList [32, 9]).toArray⟩
theorem refTrim_ev (s : ByteArray) (hs : s.size ≤ 1000) : Ev (fun q => abatisref01_Trim.f q s) (trimB s) ∧ (trimB s).size ≤ s.size := by
  obtain ⟨t, h1, h2, h3, _⟩ := trim_all s hs
  unfold trimB
  rw [h3]
  exact ⟨h2, h1⟩
theorem trimB_eq (s : ByteArray) (hs : s.size ≤ 1000) : text_Trim.f s = some (trimB s) := Trim_eq s hs
def keepT : List ByteArray → List ByteArray
  | [] => []
  | p :: l => if (trimB p).toList = ([] : List UInt8) then keepT l else trimB p :: keepT l
theorem keepT_length : ∀ l, (keepT l).length ≤ l.length
  | [] => Nat.le_refl _
  | p :: l => by
    have := keepT_length l
    unfold keepT
    split
    · rw [List.length_cons]; omega
    · rw [List.length_cons, List.length_cons]; omega
theorem keepT_size : ∀ l : List ByteArray, (∀ p ∈ l, p.size ≤ 1000) → ∀ v ∈ keepT l, v.size ≤ 1000
  | [], _, v, hv => by cases hv
  | p :: l, hl, v, hv => by
    have hp := hl p List.mem_cons_self
    have ih := keepT_size l (fun q hq => hl q (List.mem_cons_of_mem _ hq))
    unfold keepT at hv
    split at hv
    · exact ih v hv
    · rcases List.mem_cons.1 hv with rfl | hv
      · exact Nat.le_trans (refTrim_ev p hp).2 hp
      · exact ih v hv
def listV : List ByteArray → List ByteArray
  | [] => []
  | v :: V => keepT (pieces v 44) ++ listV V
theorem listV_append : ∀ a b, listV (a ++ b) = listV a ++ listV b
  | [], b => rfl
  | v :: a, b => by
    have e1 : ∀ l, listV (v :: l) = keepT (pieces v 44) ++ listV l := fun _ => rfl
    rw [List.cons_append, e1, e1, listV_append a b, List.append_assoc]
theorem listV_length : ∀ V : List ByteArray, (∀ v ∈ V, v.size ≤ 1000) → (listV V).length ≤ 1001 * V.length
  | [], _ => Nat.zero_le _
  | v :: V, hV => by
    have h1 := listV_length V (fun q hq => hV q (List.mem_cons_of_mem _ hq))
    have h2 := keepT_length (pieces v 44)
    have h3 := pieces_length v 44
    have h4 := hV v List.mem_cons_self
    unfold listV
    rw [List.length_append, List.length_cons]
    omega
theorem listV_size : ∀ V : List ByteArray, (∀ v ∈ V, v.size ≤ 1000) → ∀ x ∈ listV V, x.size ≤ 1000
  | [], _, x, hx => by cases hx
  | v :: V, hV, x, hx => by
    unfold listV at hx
    rcases List.mem_append.1 hx with hx | hx
    · exact keepT_size _ (fun p hp => Nat.le_trans (pieces_size v 44 p hp) (hV v List.mem_cons_self)) x hx
    · exact listV_size V (fun q hq => hV q (List.mem_cons_of_mem _ hq)) x hx
theorem list_inner (V : List ByteArray) (j : Nat) (P : List ByteArray) (hP : ∀ p ∈ P, p.size ≤ 1000) (hl : P.length ≤ 1001) (hj : j ≤ 1000) (R : List ByteArray) (d : Nat) : ∀ (i : Nat) (out : List ByteArray), i + d = P.length → out.length ≤ 1001 * j + i →
    Ev (fun k => head_List.l0 k (out ++ keepT (P.drop i)) V (V.length : Int) (wrap64 ((j : Int) + 1))) R → Ev (fun k => head_List.l1 k out V (V.length : Int) (j : Int) P (P.length : Int) (i : Int)) R := by
  induction d with
  | zero =>
    intro i out hi ho hk
    rw [List.drop_of_length_le (by omega)] at hk
    unfold keepT at hk
    rw [List.append_nil] at hk
    exact Ev.step (fun k => head_List.l1.eq_2 ..) (ev_neg (by omega) hk)
  | succ d ih =>
    intro i out hi ho hk
    have hlt : i < P.length := by omega
    have e : wrap64 ((i : Int) + 1) = ((i + 1 : Nat) : Int) := by unfold wrap64; omega
    have hs := hP _ (List.getElem_mem hlt)
    rw [List.drop_eq_getElem_cons hlt] at hk
    unfold keepT at hk
    refine Ev.step (fun k => head_List.l1.eq_2 ..) (ev_pos (by omega) (ev_pos (by omega) (ev_pos (by omega) ?_)))
    rw [rdOf_at P i hlt, e]
    refine ev_get (trimB_eq P[i] hs) ?_
    by_cases c : (trimB P[i]).toList = ([] : List UInt8)
    · rw [if_pos c] at hk
      exact ev_pos c (ih (i + 1) out (by omega) (by omega) hk)
    · rw [if_neg c] at hk
      refine ev_neg c (ev_pos (by omega) (ih (i + 1) (out ++ [trimB P[i]]) (by omega) (by rw [List.length_append, List.length_cons, List.length_nil]; omega) ?_))
      rw [List.append_assoc, List.singleton_append]
      exact hk
theorem list_loop (V : List ByteArray) (hV : ∀ v ∈ V, v.size ≤ 1000) (hl : V.length ≤ 1000) (d : Nat) : ∀ (j : Nat) (out : List ByteArray), j + d = V.length → out.length ≤ 1001 * j →
    Ev (fun k => head_List.l0 k out V (V.length : Int) (j : Int)) (out ++ listV (V.drop j)) := by
  induction d with
  | zero =>
    intro j out hj ho
    rw [List.drop_of_length_le (by omega)]
    exact Ev.step (fun k => head_List.l0.eq_2 ..) (ev_neg (by omega) (ev_now (List.append_nil out).symm))
  | succ d ih =>
    intro j out hj ho
    have hlt : j < V.length := by omega
    have e : wrap64 ((j : Int) + 1) = ((j + 1 : Nat) : Int) := by unfold wrap64; omega
    have hs := hV _ (List.getElem_mem hlt)
    have hk := keepT_length (pieces V[j] 44)
    have hp := pieces_length V[j] 44
    rw [List.drop_eq_getElem_cons hlt]
    unfold listV
    refine Ev.step (fun k => head_List.l0.eq_2 ..) (ev_pos (by omega) (ev_pos (by omega) (ev_pos (by omega) ?_)))
    rw [rdOf_at V j hlt]
    refine Ev.bind (Split_ev V[j] 44 hs) (list_inner V j (pieces V[j] 44) (fun p hp => Nat.le_trans (pieces_size V[j] 44 p hp) hs) (by omega) (by omega) _ (pieces V[j] 44).length 0 out (by omega) (by omega) ?_)
    rw [List.drop_zero, e, ← List.append_assoc]
    exact ih (j + 1) (out ++ keepT (pieces V[j] 44)) (by omega) (by rw [List.length_append]; omega)
theorem List_ev (n : ByteArray) (hn : n.size ≤ 1000) (l : List S25) (hl : l.length ≤ 1000) (hh : Hs l) : Ev (fun k => head_List.f k l n) (listV (allB n l)) := by
  unfold head_List.f
  refine ev_get (All_eq n hn l hl hh) ?_
  exact list_loop (allB n l) (allB_size n l hh) (Nat.le_trans (allB_length n l) hl) (allB n l).length 0 [] (by omega) (by simp)
theorem refList_inner (V : List ByteArray) (j : Nat) (P : List ByteArray) (hP : ∀ p ∈ P, p.size ≤ 1000) (hl : P.length ≤ 1001) (hj : j ≤ 1000) (R : List ByteArray) (d : Nat) : ∀ (i : Nat) (out : List ByteArray), i + d = P.length → out.length ≤ 1001 * j + i →
    Ev (fun k => abatisref14_List.l0 k V (out ++ keepT (P.drop i)) (wrap64 ((j : Int) + 1))) R → Ev (fun k => abatisref14_List.l1 k V out (j : Int) P (i : Int)) R := by
  induction d with
  | zero =>
    intro i out hi ho hk
    rw [List.drop_of_length_le (by omega)] at hk
    unfold keepT at hk
    rw [List.append_nil] at hk
    exact Ev.step (fun k => abatisref14_List.l1.eq_2 ..) (ev_neg (by omega) hk)
  | succ d ih =>
    intro i out hi ho hk
    have hlt : i < P.length := by omega
    have e : wrap64 ((i : Int) + 1) = ((i + 1 : Nat) : Int) := by unfold wrap64; omega
    have hs := hP _ (List.getElem_mem hlt)
    rw [List.drop_eq_getElem_cons hlt] at hk
    unfold keepT at hk
    refine Ev.step (fun k => abatisref14_List.l1.eq_2 ..) (ev_pos (by omega) (ev_pos (by omega) ?_))
    rw [rdOf_at P i hlt, e]
    refine Ev.bind (refTrim_ev P[i] hs).1 ?_
    by_cases c : (trimB P[i]).toList = ([] : List UInt8)
    · rw [if_pos c] at hk
      exact ev_pos c (ih (i + 1) out (by omega) (by omega) hk)
    · rw [if_neg c] at hk
      refine ev_neg c (ev_pos (by omega) (ih (i + 1) (out ++ [trimB P[i]]) (by omega) (by rw [List.length_append, List.length_cons, List.length_nil]; omega) ?_))
      rw [List.append_assoc, List.singleton_append]
      exact hk
theorem refList_loop (V : List ByteArray) (hV : ∀ v ∈ V, v.size ≤ 1000) (hl : V.length ≤ 1000) (d : Nat) : ∀ (j : Nat) (out : List ByteArray), j + d = V.length → out.length ≤ 1001 * j →
    Ev (fun k => abatisref14_List.l0 k V out (j : Int)) (out ++ listV (V.drop j)) := by
  induction d with
  | zero =>
    intro j out hj ho
    rw [List.drop_of_length_le (by omega)]
    exact Ev.step (fun k => abatisref14_List.l0.eq_2 ..) (ev_neg (by omega) (ev_now (List.append_nil out).symm))
  | succ d ih =>
    intro j out hj ho
    have hlt : j < V.length := by omega
    have e : wrap64 ((j : Int) + 1) = ((j + 1 : Nat) : Int) := by unfold wrap64; omega
    have hs := hV _ (List.getElem_mem hlt)
    have hk := keepT_length (pieces V[j] 44)
    have hp := pieces_length V[j] 44
    rw [List.drop_eq_getElem_cons hlt]
    unfold listV
    refine Ev.step (fun k => abatisref14_List.l0.eq_2 ..) (ev_pos (by omega) (ev_pos (by omega) ?_))
    rw [rdOf_at V j hlt]
    refine Ev.bind (refSplit_ev V[j] 44 hs) (refList_inner V j (pieces V[j] 44) (fun p hp => Nat.le_trans (pieces_size V[j] 44 p hp) hs) (by omega) (by omega) _ (pieces V[j] 44).length 0 out (by omega) (by omega) ?_)
    rw [List.drop_zero, e, ← List.append_assoc]
    exact ih (j + 1) (out ++ keepT (pieces V[j] 44)) (by omega) (by rw [List.length_append]; omega)
theorem refList_ev (n : ByteArray) (hn : n.size ≤ 1000) (l : List S25) (hl : l.length ≤ 1000) (hh : Hs l) : Ev (fun k => abatisref14_List.f k l n) (listV (allB n l)) := by
  unfold abatisref14_List.f
  refine Ev.bind (refAll_ev n hn l hl hh) ?_
  exact refList_loop (allB n l) (allB_size n l hh) (Nat.le_trans (allB_length n l) hl) (allB n l).length 0 [] (by omega) (by simp)
end Go.Proofs.YthjhbhgfckaklaaDoor.P
