/-
  Plain laws: what is dropped, set and found among headers.
-/
import Derived.Test.YthjhbhgfckaklabDoorPhA
import Derived.Test.YthjhbhgfckaklabDoorPlR
import Derived.Test.YthjhbhgfckaklabDoorPR5
import Derived.Test.YthjhbhgfckaklabDoorHeadM
namespace Go.Proofs.YthjhbhgfckaklabDoor.P
open Go.RowKit Go.Proofs.YthjhbhgfckaklabDoorW.PrintWords Go.Proofs.YthjhbhgfckaklabDoorW.PrintLast Go.Proofs.YthjhbhgfckaklabDoorW.PrintMore
set_option linter.unusedVariables false
set_option linter.unusedSimpArgs false
/-- Headers without those of a name. -/
def dropB (n : ByteArray) : List S26 → List S26
  | [] => []
  | h :: l => if likeB h.f0 n = true then dropB n l else h :: dropB n l
/-- Headers, the name's first one with the value, the others of it dropped; ahead of the end it is put in, unless done. -/
def setB (n v : ByteArray) : List S26 → Bool → List S26
  | [], d => if d = true then [] else [⟨n, v⟩]
  | h :: l, d => if likeB h.f0 n = true then (if d = true then setB n v l true else ⟨h.f0, v⟩ :: setB n v l true) else h :: setB n v l d
theorem setB_done (n v : ByteArray) : ∀ l, setB n v l true = dropB n l
  | [] => rfl
  | h :: l => by
    unfold setB dropB
    rw [setB_done n v l, if_pos rfl]
theorem likeB_self (n : ByteArray) : likeB n n = true := by rw [likeB_iff]
theorem dropB_length (n : ByteArray) : ∀ l, (dropB n l).length ≤ l.length
  | [] => Nat.le_refl _
  | h :: l => by
    have := dropB_length n l
    unfold dropB
    split
    · rw [List.length_cons]; omega
    · rw [List.length_cons, List.length_cons]; omega
theorem setB_length (n v : ByteArray) : ∀ l, (setB n v l false).length = (dropB n l).length + 1
  | [] => rfl
  | h :: l => by
    unfold setB dropB
    split
    · rw [if_neg (by decide), setB_done, List.length_cons]
    · rw [List.length_cons, List.length_cons, setB_length n v l]
theorem dropB_drop (n : ByteArray) : ∀ l, dropB n (dropB n l) = dropB n l
  | [] => rfl
  | h :: l => by
    have ih := dropB_drop n l
    by_cases c : likeB h.f0 n = true
    · have e : dropB n (h :: l) = dropB n l := by rw [dropB, if_pos c]
      rw [e, ih]
    · have e : dropB n (h :: l) = h :: dropB n l := by rw [dropB, if_neg c]
      rw [e, dropB, if_neg c, ih]
theorem dropB_set (n v : ByteArray) : ∀ l, dropB n (setB n v l false) = dropB n l
  | [] => by
    show (if likeB n n = true then [] else _) = _
    rw [if_pos (likeB_self n)]
    rfl
  | h :: l => by
    by_cases c : likeB h.f0 n = true
    · have e : setB n v (h :: l) false = ⟨h.f0, v⟩ :: setB n v l true := by rw [setB, if_pos c, if_neg (by decide)]
      rw [e, dropB, dropB, if_pos c, if_pos c, setB_done, dropB_drop]
    · have e : setB n v (h :: l) false = h :: setB n v l false := by rw [setB, if_neg c]
      rw [e, dropB, dropB, if_neg c, if_neg c, dropB_set n v l]
theorem allB_drop (n : ByteArray) : ∀ l, allB n (dropB n l) = []
  | [] => rfl
  | h :: l => by
    by_cases c : likeB h.f0 n = true
    · have e : dropB n (h :: l) = dropB n l := by rw [dropB, if_pos c]
      rw [e, allB_drop n l]
    · have e : dropB n (h :: l) = h :: dropB n l := by rw [dropB, if_neg c]
      rw [e, allB, if_neg c, allB_drop n l]
theorem allB_set (n v : ByteArray) : ∀ l, allB n (setB n v l false) = [v]
  | [] => by
    show (if likeB n n = true then _ else _) = _
    rw [if_pos (likeB_self n)]
    rfl
  | h :: l => by
    by_cases c : likeB h.f0 n = true
    · have e : setB n v (h :: l) false = ⟨h.f0, v⟩ :: setB n v l true := by rw [setB, if_pos c, if_neg (by decide)]
      rw [e, allB, if_pos c, setB_done, allB_drop]
    · have e : setB n v (h :: l) false = h :: setB n v l false := by rw [setB, if_neg c]
      rw [e, allB, if_neg c, allB_set n v l]
theorem setB_set (n v : ByteArray) : ∀ l, setB n v (setB n v l false) false = setB n v l false
  | [] => by
    show (if likeB n n = true then (if false = true then _ else _) else _) = [_]
    rw [if_pos (likeB_self n), if_neg (by decide)]
    rfl
  | h :: l => by
    by_cases c : likeB h.f0 n = true
    · have e : setB n v (h :: l) false = ⟨h.f0, v⟩ :: setB n v l true := by rw [setB, if_pos c, if_neg (by decide)]
      rw [e, setB, if_pos c, if_neg (by decide), setB_done, setB_done, dropB_drop]
    · have e : setB n v (h :: l) false = h :: setB n v l false := by rw [setB, if_neg c]
      rw [e, setB, if_neg c, setB_set n v l]
theorem dropB_hs (n : ByteArray) : ∀ l, Hs l → Hs (dropB n l)
  | [], _, x, hx => by cases hx
  | h :: l, hh, x, hx => by
    have ih := dropB_hs n l hh.tail
    unfold dropB at hx
    split at hx
    · exact ih x hx
    · rcases List.mem_cons.1 hx with rfl | hx
      · exact hh _ List.mem_cons_self
      · exact ih x hx
theorem setB_hs (n v : ByteArray) (hn : n.size ≤ 1000) (hv : v.size ≤ 1000) : ∀ l, Hs l → Hs (setB n v l false)
  | [], _, x, hx => by
    rcases List.mem_cons.1 hx with rfl | hx
    · exact ⟨hn, hv⟩
    · cases hx
  | h :: l, hh, x, hx => by
    have ih := setB_hs n v hn hv l hh.tail
    unfold setB at hx
    split at hx
    · rw [if_neg (by decide), setB_done] at hx
      rcases List.mem_cons.1 hx with rfl | hx
      · exact ⟨(hh _ List.mem_cons_self).1, hv⟩
      · exact dropB_hs n l hh.tail x hx
    · rcases List.mem_cons.1 hx with rfl | hx
      · exact hh _ List.mem_cons_self
      · exact ih x hx
theorem dropM_eq (n : ByteArray) (hn : n.size ≤ 1000) : ∀ l, Hs l → dropM n l = some (dropB n l)
  | [], _ => rfl
  | h :: l, hh => by
    have ih := dropM_eq n hn l hh.tail
    have hs := hh h List.mem_cons_self
    unfold dropM dropB
    rw [LikeG_eq h.f0 n (by omega) (by omega), ih]
    rfl
theorem Drop_eq (n : ByteArray) (hn : n.size ≤ 1000) (l : List S26) (hl : l.length ≤ 1000) (hh : Hs l) : head_Drop.f l n = some (dropB n l) := by
  unfold head_Drop.f
  rw [if_pos (by omega)]
  exact dropM_eq n hn l hh
/-- Where the first header of a name stands. -/
theorem ofList_first (n : ByteArray) (hn : n.size ≤ 1000) : ∀ (l : List S26) (i : Nat), Hs l →
    (ofList n l i = some [] ∧ dropB n l = l ∧ allB n l = []) ∨ ∃ p h t ys, l = p ++ h :: t ∧ ofList n l i = some ((i + p.length, h) :: ys) ∧ dropB n l = p ++ dropB n t ∧ (∀ v, setB n v l false = p ++ ⟨h.f0, v⟩ :: dropB n t) ∧ ∃ r, allB n l = h.f1 :: r
  | [], i, _ => .inl ⟨rfl, rfl, rfl⟩
  | h :: l, i, hh => by
    have hs := hh h List.mem_cons_self
    obtain ⟨xs, hx, _⟩ := ofList_eq n hn l (i + 1) hh.tail
    have e : ofList n (h :: l) i = some (if likeB h.f0 n = true then (i, h) :: xs else xs) := by
      rw [ofList, LikeG_eq h.f0 n (by omega) (by omega), hx]
      rfl
    by_cases c : likeB h.f0 n = true
    · rw [if_pos c] at e
      refine .inr ⟨[], h, l, xs, rfl, e, ?_, fun v => ?_, allB n l, ?_⟩
      · rw [dropB, if_pos c]; rfl
      · rw [setB, if_pos c, if_neg (by decide), setB_done]; rfl
      · rw [allB, if_pos c]
    · rw [if_neg c] at e
      rcases ofList_first n hn l (i + 1) hh.tail with ⟨h1, h2, h3⟩ | ⟨p, h', t, ys, h1, h2, h3, h4, r, h5⟩
      · refine .inl ⟨?_, ?_, ?_⟩
        · rw [e, ← hx, h1]
        · rw [dropB, if_neg c, h2]
        · rw [allB, if_neg c, h3]
      · refine .inr ⟨h :: p, h', t, ys, by rw [h1]; rfl, ?_, ?_, fun v => ?_, r, ?_⟩
        · rw [e, ← hx, h2, List.length_cons, Nat.add_assoc, Nat.add_comm 1]
        · rw [dropB, if_neg c, h3]; rfl
        · rw [setB, if_neg c, h4]; rfl
        · rw [allB, if_neg c, h5]
theorem setB_none (n v : ByteArray) : ∀ l, allB n l = [] → setB n v l false = l ++ [⟨n, v⟩]
  | [], _ => rfl
  | h :: l, hl => by
    by_cases c : likeB h.f0 n = true
    · rw [allB, if_pos c] at hl; cases hl
    · rw [allB, if_neg c] at hl
      rw [setB, if_neg c, setB_none n v l hl]; rfl
theorem Set_eq (n v : ByteArray) (hn : n.size ≤ 1000) (l : List S26) (hl : l.length ≤ 1000) (hh : Hs l) : head_Set.f l n v = some (setB n v l false) := by
  unfold head_Set.f
  rw [Drop_eq n hn l hl hh]
  rcases ofList_first n hn l 0 hh with ⟨h1, h2, h3⟩ | ⟨p, h, t, ys, h1, h2, h3, h4, r, h5⟩
  · rw [h1, setB_none n v l h3, h2]; rfl
  · rw [h2, h4 v, h3]
    show some (inH _ _ _) = _
    unfold inH
    rw [Nat.zero_add, List.take_left, List.drop_left]
theorem Get_eq (n : ByteArray) (hn : n.size ≤ 1000) (l : List S26) (hl : l.length ≤ 1000) (hh : Hs l) : head_Get.f l n = some (match allB n l with | [] => (ByteArray.empty, false) | v :: _ => (v, true)) := by
  unfold head_Get.f
  rw [if_pos (by omega)]
  rcases ofList_first n hn l 0 hh with ⟨h1, h2, h3⟩ | ⟨p, h, t, ys, h1, h2, h3, h4, r, h5⟩
  · rw [h1, h3]; rfl
  · rw [h2, h5]; rfl
theorem refDrop_loop (n : ByteArray) (hn : n.size ≤ 1000) (l : List S26) (hl : l.length ≤ 1000) (hh : Hs l) (d : Nat) : ∀ (i : Nat) (out : List S26), i + d = l.length → out.length ≤ i →
    Ev (fun k => abatisref14_Drop.l0 k l n out (i : Int)) (out ++ dropB n (l.drop i)) := by
  induction d with
  | zero =>
    intro i out hi ho
    rw [List.drop_of_length_le (by omega)]
    exact Ev.step (fun k => abatisref14_Drop.l0.eq_2 ..) (ev_neg (by omega) (ev_now (List.append_nil out).symm))
  | succ d ih =>
    intro i out hi ho
    have hlt : i < l.length := by omega
    have e : wrap64 ((i : Int) + 1) = ((i + 1 : Nat) : Int) := by unfold wrap64; omega
    have hs := hh _ (List.getElem_mem hlt)
    rw [List.drop_eq_getElem_cons hlt, dropB]
    refine Ev.step (fun k => abatisref14_Drop.l0.eq_2 ..) (ev_pos (by omega) (ev_pos (by omega) ?_))
    rw [rdH_at l i hlt, e]
    refine Ev.bind (refLikeG_ev l[i].f0 n (by omega) (by omega)) ?_
    by_cases c : likeB l[i].f0 n = true
    · rw [if_pos c]
      exact ev_pos c (ih (i + 1) out (by omega) (by omega))
    · rw [if_neg c]
      have hr := ih (i + 1) (out ++ [l[i]]) (by omega) (by rw [List.length_append, List.length_cons, List.length_nil]; omega)
      rw [List.append_assoc, List.singleton_append] at hr
      exact ev_neg c (ev_pos (by omega) hr)
theorem refDrop_ev (n : ByteArray) (hn : n.size ≤ 1000) (l : List S26) (hl : l.length ≤ 1000) (hh : Hs l) : Ev (fun k => abatisref14_Drop.f k l n) (dropB n l) := refDrop_loop n hn l hl hh l.length 0 [] (by omega) (by simp)
theorem refSameH_loop (l : List S26) (hl : l.length ≤ 100000) (d : Nat) : ∀ i : Nat, i + d = l.length → Ev (fun k => abatisref14_Same.l0 k l l (i : Int)) true := by
  induction d with
  | zero =>
    intro i hi
    exact Ev.step (fun k => abatisref14_Same.l0.eq_2 ..) (ev_neg (by omega) (ev_now rfl))
  | succ d ih =>
    intro i hi
    have hlt : i < l.length := by omega
    have e : wrap64 ((i : Int) + 1) = ((i + 1 : Nat) : Int) := by unfold wrap64; omega
    refine Ev.step (fun k => abatisref14_Same.l0.eq_2 ..) (ev_pos (by omega) (ev_pos (by omega) (ev_pos (by omega) (ev_neg ?_ ?_))))
    · simp
    · rw [e]
      exact ih (i + 1) (by omega)
theorem refSameH_ev (l : List S26) (hl : l.length ≤ 100000) : Ev (fun k => abatisref14_Same.f k l l) true := ev_pos rfl (refSameH_loop l hl l.length 0 (by omega))
end Go.Proofs.YthjhbhgfckaklabDoor.P
