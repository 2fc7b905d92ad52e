/-
  Plain laws, put together by mkpl.py.
-/
import Derived.Test.YthjhbhgfckaklabDoorPhC
import Derived.Test.YthjhbhgfckaklabDoorPL11
import Derived.Test.YthjhbhgfckaklabDoorHeadM
import Derived.Test.YthjhbhgfckaklabDoorPH11
import Derived.Test.YthjhbhgfckaklabDoorHeadL
import Derived.Test.YthjhbhgfckaklabDoorPR4
import Derived.Test.YthjhbhgfckaklabDoorPR5
namespace Go.Proofs.YthjhbhgfckaklabDoor.P
open Go.RowKit Go.Proofs.YthjhbhgfckaklabDoorW.PrintWords Go.Proofs.YthjhbhgfckaklabDoorW.PrintLast Go.Proofs.YthjhbhgfckaklabDoorW.PrintMore
set_option linter.unusedVariables false
set_option linter.unusedSimpArgs false

/-! ### small letters -/
def lowS (s : ByteArray) : ByteArray := strOfNums ((bytesOf s).map lowB)
theorem Lower_eq (s : ByteArray) (h : s.size ≤ 1000) : text_Lower.f s = some (lowS s) := by
  unfold text_Lower.f; rw [if_pos (by omega)]; rfl
theorem lowB_cases (c : Int) (h0 : 0 ≤ c) (h1 : c ≤ 255) : lowB c = if c ≥ 65 then (if c ≤ 90 then (c + 32) % 256 else c) else c := by
  unfold lowB
  by_cases a : 65 ≤ c
  · by_cases b : c ≤ 90
    · rw [if_pos ⟨a, b⟩, if_pos a, if_pos b]; omega
    · rw [if_neg (fun h => b h.2), if_pos a, if_neg b]
  · rw [if_neg (fun h => a h.1), if_neg a]
theorem lowB_range (c : Int) (h0 : 0 ≤ c) (h1 : c ≤ 255) : 0 ≤ lowB c ∧ lowB c ≤ 255 := by unfold lowB; split <;> omega
theorem lowB_twice (c : Int) : lowB (lowB c) = lowB c := by unfold lowB; split <;> (try split) <;> omega
theorem size_lowS (s : ByteArray) : (lowS s).size = s.size := by
  unfold lowS; rw [size_strOf, List.length_map, bytesOf_length]
theorem bytes_lowS (s : ByteArray) : bytesOf (lowS s) = (bytesOf s).map lowB := by
  unfold lowS
  refine bytesOf_strOf _ (fun x hx => ?_)
  simp only [List.mem_map] at hx
  obtain ⟨c, hc, rfl⟩ := hx
  have := bytesOf_range s c hc
  exact lowB_range c this.1 this.2
theorem lowS_twice (s : ByteArray) : lowS (lowS s) = lowS s := by
  show strOfNums ((bytesOf (lowS s)).map lowB) = lowS s
  rw [bytes_lowS, List.map_map]
  unfold lowS
  congr 1
  apply List.map_congr_left
  intro c _
  exact lowB_twice c
theorem refLower_loop (s : ByteArray) (hs : s.size ≤ 1000) (d : Nat) : ∀ i : Nat, i + d = s.size →
    Ev (fun k => abatisref01_Lower.l0 k s (((bytesOf s).take i).map lowB) (i : Int)) (lowS s) := by
  induction d with
  | zero =>
    intro i hi
    refine Ev.step (fun k => abatisref01_Lower.l0.eq_2 ..) (ev_neg (by omega) (ev_now ?_))
    rw [List.take_of_length_le (by rw [bytesOf_length]; omega)]
    rfl
  | succ d ih =>
    intro i hi
    have hr := bt_range s i
    have e : wrap64 ((i : Int) + 1) = ((i + 1 : Nat) : Int) := by unfold wrap64; omega
    have hl : (((bytesOf s).take i).map lowB).length < 140737488355328 := by
      rw [List.length_map, List.length_take, bytesOf_length]; omega
    have hn := ih (i + 1) (by omega)
    rw [bytesOf_take s i (by omega), List.map_append, List.map_cons, List.map_nil, lowB_cases _ hr.1 hr.2] at hn
    refine Ev.step (fun k => abatisref01_Lower.l0.eq_2 ..) (ev_pos (by omega) (ev_pos (by omega) ?_))
    rw [e]
    by_cases a : bt s i ≥ 65
    · by_cases b : bt s i ≤ 90
      · rw [if_pos a, if_pos b] at hn
        exact ev_pos a (ev_pos b (ev_pos hl hn))
      · rw [if_pos a, if_neg b] at hn
        exact ev_pos a (ev_neg b (ev_pos hl hn))
    · rw [if_neg a] at hn
      exact ev_neg a (ev_pos hl hn)
theorem refLower_ev (s : ByteArray) (hs : s.size ≤ 1000) : Ev (fun k => abatisref01_Lower.f k s) (lowS s) := refLower_loop s hs s.size 0 (by omega)
theorem refLike_ev (a b : ByteArray) (ha : a.size ≤ 1000) (hb : b.size ≤ 1000) : Ev (fun k => abatisref01_Like.f k a b) ((lowS a).toList == (lowS b).toList) :=
  Ev.bind (refLower_ev a ha) (Ev.bind (refLower_ev b hb) (Ev.now _))
theorem Like_eq (a b : ByteArray) (ha : a.size ≤ 1000) (hb : b.size ≤ 1000) : text_Like.f a b = some ((lowS a).toList == (lowS b).toList) := by
  unfold text_Like.f; rw [Lower_eq a ha, Lower_eq b hb]; rfl
/-! ### pieces -/
/-- The first piece, and the others. -/
def splitB (c : Int) : List Int → List Int × List (List Int)
  | [] => ([], [])
  | x :: l => if x = c then ([], (splitB c l).1 :: (splitB c l).2) else (x :: (splitB c l).1, (splitB c l).2)
def pieces (s : ByteArray) (c : Int) : List ByteArray := strOfNums (splitB c (bytesOf s)).1 :: (splitB c (bytesOf s)).2.map strOfNums
theorem strOf_append (a b : List Int) : strOfNums (a ++ b) = strOfNums a ++ strOfNums b := by
  apply ByteArray.ext
  apply Array.ext'
  unfold strOfNums
  simp
theorem splitB_append (c : Int) : ∀ (a b : List Int), splitB c (a ++ c :: b) = ((splitB c a).1, (splitB c a).2 ++ (splitB c b).1 :: (splitB c b).2)
  | [], b => by simp [splitB]
  | x :: a, b => by
    have e1 : ∀ l, splitB c (x :: l) = if x = c then ([], (splitB c l).1 :: (splitB c l).2) else (x :: (splitB c l).1, (splitB c l).2) := fun l => rfl
    rw [List.cons_append, e1, e1, splitB_append c a b]
    split <;> simp
theorem pieces_append (a b sep : ByteArray) (c : Int) (h : bytesOf sep = [c]) : pieces (a ++ sep ++ b) c = pieces a c ++ pieces b c := by
  unfold pieces
  rw [bytesOf_append, bytesOf_append, h, List.append_assoc, List.singleton_append, splitB_append]
  simp
theorem splitB_small (c : Int) : ∀ (l : List Int), (splitB c l).1.length ≤ l.length ∧ (∀ p ∈ (splitB c l).2, p.length ≤ l.length) ∧ (splitB c l).2.length ≤ l.length
  | [] => by simp [splitB]
  | x :: l => by
    have ih := splitB_small c l
    unfold splitB
    split
    · refine ⟨by simp, fun p hp => ?_, ?_⟩
      · rw [List.length_cons]
        rcases List.mem_cons.1 hp with rfl | hp
        · have := ih.1; omega
        · have := ih.2.1 p hp; omega
      · rw [List.length_cons, List.length_cons]; have := ih.2.2; omega
    · refine ⟨?_, fun p hp => ?_, ?_⟩
      · rw [List.length_cons, List.length_cons]; have := ih.1; omega
      · rw [List.length_cons]; have := ih.2.1 p hp; omega
      · rw [List.length_cons]; have := ih.2.2; show (splitB c l).2.length ≤ _; omega
theorem pieces_size (s : ByteArray) (c : Int) : ∀ p ∈ pieces s c, p.size ≤ s.size := by
  have h := splitB_small c (bytesOf s)
  rw [bytesOf_length] at h
  intro p hp
  unfold pieces at hp
  rcases List.mem_cons.1 hp with rfl | hp
  · rw [size_strOf]; exact h.1
  · simp only [List.mem_map] at hp
    obtain ⟨q, hq, rfl⟩ := hp
    rw [size_strOf]; exact h.2.1 q hq
theorem pieces_length (s : ByteArray) (c : Int) : (pieces s c).length ≤ s.size + 1 := by
  have h := splitB_small c (bytesOf s)
  rw [bytesOf_length] at h
  unfold pieces
  rw [List.length_cons, List.length_map]
  omega
theorem set_last (l : List ByteArray) (a b : ByteArray) : (l ++ [a]).set l.length b = l ++ [b] := by
  induction l with
  | nil => rfl
  | cons x l ih => simp [ih]
theorem rdOf_last (l : List ByteArray) (a : ByteArray) (j : Int) (hj : j = (l.length : Int)) : rdOf ByteArray.empty (l ++ [a]) j = a := by
  subst hj
  unfold rdOf
  rw [Int.toNat_natCast]
  simp
theorem empty_append' (a : ByteArray) : (⟨#[]⟩ : ByteArray) ++ a = a := by apply ByteArray.ext; simp
theorem append_empty' (a : ByteArray) : a ++ (⟨#[]⟩ : ByteArray) = a := by apply ByteArray.ext; simp
theorem extract_none (s : ByteArray) (i : Nat) : s.extract i i = (⟨#[]⟩ : ByteArray) := by
  apply ByteArray.ext
  apply Array.eq_empty_of_size_eq_zero
  simp
theorem Split_loop (s : ByteArray) (c : Int) (hs : s.size ≤ 1000) (d : Nat) : ∀ (i : Nat) (out : List ByteArray) (cur : ByteArray), i + d = s.size → out.length ≤ i → cur.size ≤ i →
    Ev (fun k => text_Split.l0 k s c (out ++ [cur]) (s.size : Int) (i : Int)) (out ++ (cur ++ strOfNums (splitB c ((bytesOf s).drop i)).1) :: (splitB c ((bytesOf s).drop i)).2.map strOfNums) := by
  induction d with
  | zero =>
    intro i out cur hi ho hc
    rw [List.drop_of_length_le (by rw [bytesOf_length]; omega)]
    refine Ev.step (fun k => text_Split.l0.eq_2 ..) (ev_neg (by omega) (ev_now ?_))
    show out ++ [cur] = out ++ [cur ++ (⟨#[]⟩ : ByteArray)]
    rw [append_empty']
  | succ d ih =>
    intro i out cur hi ho hcs
    have hlt : i < s.size := by omega
    have e : wrap64 ((i : Int) + 1) = ((i + 1 : Nat) : Int) := by unfold wrap64; omega
    rw [bytesOf_drop s i hlt]
    unfold splitB
    by_cases hc : bt s i = c
    · rw [if_pos hc]
      have h2 := ih (i + 1) (out ++ [cur]) (⟨#[]⟩ : ByteArray) (by omega) (by rw [List.length_append, List.length_cons, List.length_nil]; omega) (Nat.zero_le _)
      refine Ev.step (fun k => text_Split.l0.eq_2 ..) (ev_pos (by omega) (ev_pos (by omega) (ev_pos (by omega) (ev_pos hc (ev_pos ?_ ?_)))))
      · rw [List.length_append, List.length_cons, List.length_nil]; omega
      · rw [e]
        rw [empty_append', List.append_assoc out [cur] (strOfNums (splitB c ((bytesOf s).drop (i + 1))).1 :: (splitB c ((bytesOf s).drop (i + 1))).2.map strOfNums)] at h2
        rw [List.map_cons]
        show Ev _ (out ++ (cur ++ (⟨#[]⟩ : ByteArray)) :: _)
        rw [append_empty']
        exact h2
    · rw [if_neg hc]
      have hz2 : (s.extract i (i + 1)).size = 1 := by rw [ByteArray.size_extract]; omega
      have h2 := ih (i + 1) out (cur ++ s.extract i (i + 1)) (by omega) (by omega) (by rw [ByteArray.size_append]; omega)
      have hl : (((out ++ [cur]).length : Nat) : Int) = (out.length : Int) + 1 := by rw [List.length_append, List.length_cons, List.length_nil]; omega
      have hw : wrap64 (((out ++ [cur]).length : Int) - 1) = (out.length : Int) := by rw [hl]; unfold wrap64; omega
      refine Ev.step (fun k => text_Split.l0.eq_2 ..) (ev_pos (by omega) (ev_pos (by omega) (ev_pos (by omega) (ev_neg hc ?_))))
      rw [hw, e, rdOf_last _ _ _ rfl, Int.toNat_natCast, Int.toNat_natCast, Int.toNat_natCast, set_last]
      rw [ByteArray.append_assoc, extract_one s i hlt, ← strOf_append, List.singleton_append] at h2
      rw [extract_one s i hlt] at hz2 ⊢
      exact ev_pos (by omega) (ev_pos (by omega) (ev_pos (by omega) (ev_pos (by omega) (ev_pos (by omega) h2))))
theorem Split_ev (s : ByteArray) (c : Int) (hs : s.size ≤ 1000) : Ev (fun k => text_Split.f k s c) (pieces s c) := by
  have h := Split_loop s c hs s.size 0 [] (⟨#[]⟩ : ByteArray) (by omega) (by simp) (Nat.zero_le _)
  rw [List.drop_zero, empty_append'] at h
  exact h
theorem refSplit_loop (s : ByteArray) (c : Int) (hs : s.size ≤ 1000) (d : Nat) : ∀ (i p : Nat) (out : List ByteArray), i + d = s.size → p ≤ i → out.length ≤ i →
    Ev (fun k => abatisref01_Split.l0 k s c out (p : Int) (i : Int)) (out ++ (s.extract p i ++ strOfNums (splitB c ((bytesOf s).drop i)).1) :: (splitB c ((bytesOf s).drop i)).2.map strOfNums) := by
  induction d with
  | zero =>
    intro i p out hi hp ho
    obtain rfl : i = s.size := by omega
    rw [List.drop_of_length_le (by rw [bytesOf_length]; omega)]
    refine Ev.step (fun k => abatisref01_Split.l0.eq_2 ..) (ev_neg (by omega) (ev_pos (by omega) (ev_pos (by omega) (ev_pos (by omega) (ev_now ?_)))))
    show out ++ [s.extract p s.size] = out ++ [s.extract p s.size ++ (⟨#[]⟩ : ByteArray)]
    rw [append_empty']
  | succ d ih =>
    intro i p out hi hp ho
    have hlt : i < s.size := by omega
    have e : wrap64 ((i : Int) + 1) = ((i + 1 : Nat) : Int) := by unfold wrap64; omega
    rw [bytesOf_drop s i hlt]
    unfold splitB
    by_cases hc : bt s i = c
    · rw [if_pos hc]
      have h1 := ih (i + 1) (i + 1) (out ++ [s.extract p i]) (by omega) (by omega) (by rw [List.length_append, List.length_cons, List.length_nil]; omega)
      refine Ev.step (fun k => abatisref01_Split.l0.eq_2 ..) (ev_pos (by omega) (ev_pos (by omega) (ev_pos hc (ev_pos (by omega) (ev_pos (by omega) (ev_pos (by omega) (ev_pos (by omega) ?_)))))))
      rw [e, Int.toNat_natCast, Int.toNat_natCast]
      rw [extract_none, empty_append', List.append_assoc out [s.extract p i] (strOfNums (splitB c ((bytesOf s).drop (i + 1))).1 :: (splitB c ((bytesOf s).drop (i + 1))).2.map strOfNums)] at h1
      rw [List.map_cons]
      show Ev _ (out ++ (s.extract p i ++ (⟨#[]⟩ : ByteArray)) :: _)
      rw [append_empty']
      exact h1
    · rw [if_neg hc]
      have h1 := ih (i + 1) p out (by omega) (by omega) (by omega)
      refine Ev.step (fun k => abatisref01_Split.l0.eq_2 ..) (ev_pos (by omega) (ev_pos (by omega) (ev_neg hc ?_)))
      rw [e]
      rw [ByteArray.extract_eq_extract_append_extract i (by omega) (by omega), ByteArray.append_assoc, extract_one s i hlt, ← strOf_append, List.singleton_append] at h1
      exact h1
theorem refSplit_ev (s : ByteArray) (c : Int) (hs : s.size ≤ 1000) : Ev (fun k => abatisref01_Split.f k s c) (pieces s c) := by
  have h := refSplit_loop s c hs s.size 0 0 [] (by omega) (by omega) (by simp)
  rw [List.drop_zero, extract_none, empty_append'] at h
  exact h
theorem same_loop (l : List ByteArray) (hl : l.length ≤ 100000) (d : Nat) : ∀ i : Nat, i + d = l.length → Ev (fun k => abatisref01_Same.l0 k l l (i : Int)) true := by
  induction d with
  | zero => intro i hi; exact Ev.step (fun k => abatisref01_Same.l0.eq_2 ..) (ev_neg (by omega) (ev_now rfl))
  | succ d ih =>
    intro i hi
    have e : wrap64 ((i : Int) + 1) = ((i + 1 : Nat) : Int) := by unfold wrap64; omega
    refine Ev.step (fun k => abatisref01_Same.l0.eq_2 ..) (ev_pos (by omega) (ev_pos (by omega) (ev_pos (by omega) (ev_pos rfl ?_))))
    rw [e]
    exact ih (i + 1) (by omega)
theorem same_ev (l : List ByteArray) (hl : l.length ≤ 100000) : Ev (fun k => abatisref01_Same.f k l l) true := by
  unfold abatisref01_Same.f
  exact ev_pos rfl (same_loop l hl l.length 0 (by omega))
theorem refLowerG_loop (s : ByteArray) (hs : s.size ≤ 140737488352000) (d : Nat) : ∀ i : Nat, i + d = s.size →
    Ev (fun k => abatisref01_Lower.l0 k s (((bytesOf s).take i).map lowB) (i : Int)) (lowS s) := by
  induction d with
  | zero =>
    intro i hi
    refine Ev.step (fun k => abatisref01_Lower.l0.eq_2 ..) (ev_neg (by omega) (ev_now ?_))
    rw [List.take_of_length_le (by rw [bytesOf_length]; omega)]
    rfl
  | succ d ih =>
    intro i hi
    have hr := bt_range s i
    have e : wrap64 ((i : Int) + 1) = ((i + 1 : Nat) : Int) := by unfold wrap64; omega
    have hl : (((bytesOf s).take i).map lowB).length < 140737488355328 := by
      rw [List.length_map, List.length_take, bytesOf_length]; omega
    have hn := ih (i + 1) (by omega)
    rw [bytesOf_take s i (by omega), List.map_append, List.map_cons, List.map_nil, lowB_cases _ hr.1 hr.2] at hn
    refine Ev.step (fun k => abatisref01_Lower.l0.eq_2 ..) (ev_pos (by omega) (ev_pos (by omega) ?_))
    rw [e]
    by_cases a : bt s i ≥ 65
    · by_cases b : bt s i ≤ 90
      · rw [if_pos a, if_pos b] at hn
        exact ev_pos a (ev_pos b (ev_pos hl hn))
      · rw [if_pos a, if_neg b] at hn
        exact ev_pos a (ev_neg b (ev_pos hl hn))
    · rw [if_neg a] at hn
      exact ev_neg a (ev_pos hl hn)
theorem refLowerG_ev (s : ByteArray) (hs : s.size ≤ 140737488352000) : Ev (fun k => abatisref01_Lower.f k s) (lowS s) := refLowerG_loop s hs s.size 0 (by omega)
def likeB (a b : ByteArray) : Bool := (lowS a).toList == (lowS b).toList
theorem refLikeG_ev (a b : ByteArray) (ha : a.size ≤ 140737488352000) (hb : b.size ≤ 140737488352000) : Ev (fun k => abatisref01_Like.f k a b) (likeB a b) :=
  Ev.bind (refLowerG_ev a ha) (Ev.bind (refLowerG_ev b hb) (Ev.now _))
theorem LikeG_eq (a b : ByteArray) (ha : a.size ≤ 140737488352000) (hb : b.size ≤ 140737488352000) : text_Like.f a b = some (likeB a b) := by
  have h : ∀ s : ByteArray, s.size ≤ 140737488352000 → text_Lower.f s = some (lowS s) := by
    intro s hs
    unfold text_Lower.f
    rw [if_pos (by omega)]
    rfl
  unfold text_Like.f
  rw [h a ha, h b hb]
  rfl
theorem likeB_iff (a b : ByteArray) : likeB a b = true ↔ lowS a = lowS b := by
  unfold likeB
  rw [beq_iff_eq]
  exact toList_inj
/-! ### pieces, and what they are together -/
def jStep (sep : ByteArray) : Option ByteArray → ByteArray → Option ByteArray
  | none, a => some a
  | some x, a => some (x ++ sep ++ a)
def jOpt (sep : ByteArray) (l : List ByteArray) : Option ByteArray := l.foldl (jStep sep) none
/-- The pieces with sep between. -/
def joinB (sep : ByteArray) (l : List ByteArray) : ByteArray := (jOpt sep l).getD ByteArray.empty
theorem jOpt_snoc (sep : ByteArray) (l : List ByteArray) (a : ByteArray) : jOpt sep (l ++ [a]) = jStep sep (jOpt sep l) a := by
  unfold jOpt; rw [List.foldl_append]; rfl
theorem joinB_split (sep : ByteArray) (l : List ByteArray) (a b : ByteArray) : jOpt sep (l ++ [a] ++ [b]) = jOpt sep (l ++ [a ++ sep ++ b]) := by
  rw [jOpt_snoc, jOpt_snoc, jOpt_snoc]
  cases jOpt sep l with
  | none => rfl
  | some x => simp only [jStep, ByteArray.append_assoc]
theorem empty_appendE (a : ByteArray) : ByteArray.empty ++ a = a := by apply ByteArray.ext; simp
/-! ### the document's Join -/
def jSize (sep : ByteArray) (l : List ByteArray) : Nat := (joinB sep l).size
theorem jSize_snoc (sep : ByteArray) (l : List ByteArray) (a : ByteArray) : jSize sep l ≤ jSize sep (l ++ [a]) := by
  unfold jSize joinB
  rw [jOpt_snoc]
  cases jOpt sep l with
  | none => simp [jStep]
  | some x => simp only [jStep, Option.getD_some, ByteArray.size_append]; omega
theorem jSize_le (sep : ByteArray) (l r : List ByteArray) : jSize sep l ≤ jSize sep (l ++ r) := by
  induction r generalizing l with
  | nil => rw [List.append_nil]; omega
  | cons a r ih =>
    have h1 := jSize_snoc sep l a
    have h2 := ih (l ++ [a])
    rw [List.append_assoc, List.singleton_append] at h2
    omega
theorem jOpt_some (sep : ByteArray) (l : List ByteArray) (h : l ≠ []) : jOpt sep l = some (joinB sep l) := by
  obtain ⟨m, a, rfl⟩ : ∃ m a, l = m ++ [a] := ⟨l.dropLast, l.getLast h, (List.dropLast_concat_getLast h).symm⟩
  unfold joinB
  rw [jOpt_snoc]
  cases jOpt sep m <;> rfl
theorem take_snoc (l : List ByteArray) (i : Nat) (h : i < l.length) : l.take (i + 1) = l.take i ++ [rdOf ByteArray.empty l (i : Int)] := by
  rw [List.take_add_one, List.getElem?_eq_getElem h]
  unfold rdOf
  rw [Int.toNat_natCast, List.getD_eq_getElem?_getD, List.getElem?_eq_getElem h]
  rfl
theorem join_loop (l : List ByteArray) (sep : ByteArray) (hl : l.length ≤ 100000) (hz : jSize sep l ≤ 1000000) (d : Nat) : ∀ i : Nat, i + d = l.length →
    Ev (fun k => abatisref01_Join.l0 k l sep (joinB sep (l.take i)) (i : Int)) (joinB sep l) := by
  induction d with
  | zero =>
    intro i hi
    rw [List.take_of_length_le (by omega)]
    exact Ev.step (fun k => abatisref01_Join.l0.eq_2 ..) (ev_neg (by omega) (ev_now rfl))
  | succ d ih =>
    intro i hi
    have e : wrap64 ((i : Int) + 1) = ((i + 1 : Nat) : Int) := by unfold wrap64; omega
    have hn := ih (i + 1) (by omega)
    have hle := jSize_le sep (l.take (i + 1)) (l.drop (i + 1))
    rw [List.take_append_drop] at hle
    have hsz : (joinB sep (l.take (i + 1))).size ≤ 1000000 := Nat.le_trans hle hz
    rw [take_snoc l i (by omega)] at hn hsz
    refine Ev.step (fun k => abatisref01_Join.l0.eq_2 ..) (ev_pos (by omega) ?_)
    rw [e]
    cases i with
    | zero =>
      have e0 : joinB sep (l.take 0 ++ [rdOf ByteArray.empty l ((0 : Nat) : Int)]) = rdOf ByteArray.empty l ((0 : Nat) : Int) := rfl
      have e1 : joinB sep (l.take 0) = ByteArray.empty := rfl
      rw [e0] at hn hsz
      rw [e1, empty_appendE]
      refine ev_neg (by omega) (ev_pos (by omega) (ev_pos ?_ hn))
      have : ByteArray.empty.size = 0 := rfl
      omega
    | succ j =>
      have hne : l.take (j + 1) ≠ [] := by
        intro h
        have := congrArg List.length h
        rw [List.length_take, List.length_nil] at this
        omega
      have e0 : joinB sep (l.take (j + 1) ++ [rdOf ByteArray.empty l ((j + 1 : Nat) : Int)]) = joinB sep (l.take (j + 1)) ++ sep ++ rdOf ByteArray.empty l ((j + 1 : Nat) : Int) := by
        conv => lhs; unfold joinB
        rw [jOpt_snoc, jOpt_some sep _ hne]
        rfl
      rw [e0] at hn hsz
      rw [ByteArray.size_append, ByteArray.size_append] at hsz
      refine ev_pos (by omega) (ev_pos (by omega) (ev_pos (by omega) (ev_pos ?_ hn)))
      rw [ByteArray.size_append]
      omega
theorem join_ev (l : List ByteArray) (sep : ByteArray) (hl : l.length ≤ 100000) (hz : jSize sep l ≤ 1000000) : Ev (fun k => abatisref01_Join.f k l sep) (joinB sep l) :=
  join_loop l sep hl hz l.length 0 (by omega)
/-- The values of a name. -/
def allB (n : ByteArray) : List S26 → List ByteArray
  | [] => []
  | h :: l => if likeB h.f0 n = true then h.f1 :: allB n l else allB n l
theorem ofList_eq (n : ByteArray) (hn : n.size ≤ 1000) : ∀ (l : List S26) (i : Nat), Hs l → ∃ xs, ofList n l i = some xs ∧ valsOf xs = allB n l
  | [], i, _ => ⟨[], rfl, rfl⟩
  | h :: l, i, hh => by
    obtain ⟨xs, hx, hv⟩ := ofList_eq n hn l (i + 1) hh.tail
    have hs := hh h List.mem_cons_self
    unfold ofList allB
    rw [LikeG_eq h.f0 n (by omega) (by omega)]
    refine ⟨if likeB h.f0 n = true then (i, h) :: xs else xs, ?_, ?_⟩
    · show ((ofList n l (i + 1)).bind fun r => some (if likeB h.f0 n = true then (i, h) :: r else r)) = _
      rw [hx]
      rfl
    · split
      · show h.f1 :: valsOf xs = _
        rw [hv]
      · exact hv
theorem All_eq (n : ByteArray) (hn : n.size ≤ 1000) (l : List S26) (hl : l.length ≤ 1000) (hh : Hs l) : head_All.f l n = some (allB n l) := by
  obtain ⟨xs, hx, hv⟩ := ofList_eq n hn l 0 hh
  unfold head_All.f
  rw [if_pos (by omega), hx]
  show some (valsOf xs) = _
  rw [hv]
theorem allB_length (n : ByteArray) : ∀ l : List S26, (allB n l).length ≤ l.length
  | [] => Nat.le_refl _
  | h :: l => by
    have := allB_length n l
    unfold allB
    split
    · rw [List.length_cons, List.length_cons]; omega
    · rw [List.length_cons]; omega
theorem allB_size (n : ByteArray) : ∀ l : List S26, Hs l → ∀ v ∈ allB n l, v.size ≤ 1000
  | [], _, v, hv => by cases hv
  | h :: l, hh, v, hv => by
    have hs := hh h List.mem_cons_self
    unfold allB at hv
    split at hv
    · rcases List.mem_cons.1 hv with rfl | hv
      · exact hs.2
      · exact allB_size n l hh.tail v hv
    · exact allB_size n l hh.tail v hv
theorem allB_like (n m : ByteArray) (h : lowS n = lowS m) : ∀ l : List S26, allB n l = allB m l
  | [] => rfl
  | x :: l => by
    unfold allB
    have : likeB x.f0 n = likeB x.f0 m := by unfold likeB; rw [h]
    rw [this, allB_like n m h l]
theorem allB_append (n : ByteArray) : ∀ a b : List S26, allB n (a ++ b) = allB n a ++ allB n b
  | [], b => rfl
  | x :: a, b => by
    have e1 : ∀ l, allB n (x :: l) = if likeB x.f0 n = true then x.f1 :: allB n l else allB n l := fun _ => rfl
    rw [List.cons_append, e1, e1, allB_append n a b]
    split <;> rfl
theorem refAll_loop (n : ByteArray) (hn : n.size ≤ 1000) (l : List S26) (hl : l.length ≤ 1000) (hh : Hs l) (d : Nat) : ∀ (i : Nat) (out : List ByteArray), i + d = l.length → out.length ≤ i →
    Ev (fun k => abatisref14_All.l0 k l n out (i : Int)) (out ++ allB n (l.drop i)) := by
  induction d with
  | zero =>
    intro i out hi ho
    rw [List.drop_of_length_le (by omega)]
    exact Ev.step (fun k => abatisref14_All.l0.eq_2 ..) (ev_neg (by omega) (ev_now (List.append_nil out).symm))
  | succ d ih =>
    intro i out hi ho
    have hlt : i < l.length := by omega
    have e : wrap64 ((i : Int) + 1) = ((i + 1 : Nat) : Int) := by unfold wrap64; omega
    have hs := hh _ (List.getElem_mem hlt)
    rw [List.drop_eq_getElem_cons hlt]
    unfold allB
    refine Ev.step (fun k => abatisref14_All.l0.eq_2 ..) (ev_pos (by omega) (ev_pos (by omega) ?_))
    rw [rdH_at l i hlt, e]
    refine Ev.bind (refLikeG_ev l[i].f0 n (by omega) (by omega)) ?_
    by_cases c : likeB l[i].f0 n = true
    · rw [if_pos c]
      have hr := ih (i + 1) (out ++ [l[i].f1]) (by omega) (by rw [List.length_append, List.length_cons, List.length_nil]; omega)
      rw [List.append_assoc, List.singleton_append] at hr
      exact ev_pos c (ev_pos (by omega) hr)
    · rw [if_neg c]
      exact ev_neg c (ih (i + 1) out (by omega) (by omega))
theorem refAll_ev (n : ByteArray) (hn : n.size ≤ 1000) (l : List S26) (hl : l.length ≤ 1000) (hh : Hs l) : Ev (fun k => abatisref14_All.f k l n) (allB n l) := refAll_loop n hn l hl hh l.length 0 [] (by omega) (by simp)
def keepT : List ByteArray → List ByteArray
  | [] => []
  | p :: l => if (trimB p).toList = ([] : List UInt8) then keepT l else trimB p :: keepT l
theorem keepT_length : ∀ l, (keepT l).length ≤ l.length
  | [] => Nat.le_refl _
  | p :: l => by
    have := keepT_length l
    unfold keepT
    split
    · rw [List.length_cons]; omega
    · rw [List.length_cons, List.length_cons]; omega
theorem keepT_size : ∀ l : List ByteArray, (∀ p ∈ l, p.size ≤ 1000) → ∀ v ∈ keepT l, v.size ≤ 1000
  | [], _, v, hv => by cases hv
  | p :: l, hl, v, hv => by
    have hp := hl p List.mem_cons_self
    have ih := keepT_size l (fun q hq => hl q (List.mem_cons_of_mem _ hq))
    unfold keepT at hv
    split at hv
    · exact ih v hv
    · rcases List.mem_cons.1 hv with rfl | hv
      · exact Nat.le_trans (refTrim_ev p hp).2 hp
      · exact ih v hv
def listV : List ByteArray → List ByteArray
  | [] => []
  | v :: V => keepT (pieces v 44) ++ listV V
theorem listV_append : ∀ a b, listV (a ++ b) = listV a ++ listV b
  | [], b => rfl
  | v :: a, b => by
    have e1 : ∀ l, listV (v :: l) = keepT (pieces v 44) ++ listV l := fun _ => rfl
    rw [List.cons_append, e1, e1, listV_append a b, List.append_assoc]
theorem listV_length : ∀ V : List ByteArray, (∀ v ∈ V, v.size ≤ 1000) → (listV V).length ≤ 1001 * V.length
  | [], _ => Nat.zero_le _
  | v :: V, hV => by
    have h1 := listV_length V (fun q hq => hV q (List.mem_cons_of_mem _ hq))
    have h2 := keepT_length (pieces v 44)
    have h3 := pieces_length v 44
    have h4 := hV v List.mem_cons_self
    unfold listV
    rw [List.length_append, List.length_cons]
    omega
theorem listV_size : ∀ V : List ByteArray, (∀ v ∈ V, v.size ≤ 1000) → ∀ x ∈ listV V, x.size ≤ 1000
  | [], _, x, hx => by cases hx
  | v :: V, hV, x, hx => by
    unfold listV at hx
    rcases List.mem_append.1 hx with hx | hx
    · exact keepT_size _ (fun p hp => Nat.le_trans (pieces_size v 44 p hp) (hV v List.mem_cons_self)) x hx
    · exact listV_size V (fun q hq => hV q (List.mem_cons_of_mem _ hq)) x hx
theorem list_inner (V : List ByteArray) (j : Nat) (P : List ByteArray) (hP : ∀ p ∈ P, p.size ≤ 1000) (hl : P.length ≤ 1001) (hj : j ≤ 1000) (R : List ByteArray) (d : Nat) : ∀ (i : Nat) (out : List ByteArray), i + d = P.length → out.length ≤ 1001 * j + i →
    Ev (fun k => head_List.l0 k (out ++ keepT (P.drop i)) V (V.length : Int) (wrap64 ((j : Int) + 1))) R → Ev (fun k => head_List.l1 k out V (V.length : Int) (j : Int) P (P.length : Int) (i : Int)) R := by
  induction d with
  | zero =>
    intro i out hi ho hk
    rw [List.drop_of_length_le (by omega)] at hk
    unfold keepT at hk
    rw [List.append_nil] at hk
    exact Ev.step (fun k => head_List.l1.eq_2 ..) (ev_neg (by omega) hk)
  | succ d ih =>
    intro i out hi ho hk
    have hlt : i < P.length := by omega
    have e : wrap64 ((i : Int) + 1) = ((i + 1 : Nat) : Int) := by unfold wrap64; omega
    have hs := hP _ (List.getElem_mem hlt)
    rw [List.drop_eq_getElem_cons hlt] at hk
    unfold keepT at hk
    refine Ev.step (fun k => head_List.l1.eq_2 ..) (ev_pos (by omega) (ev_pos (by omega) (ev_pos (by omega) ?_)))
    rw [rdOf_at P i hlt, e]
    refine ev_get (trimB_eq P[i] hs) ?_
    by_cases c : (trimB P[i]).toList = ([] : List UInt8)
    · rw [if_pos c] at hk
      exact ev_pos c (ih (i + 1) out (by omega) (by omega) hk)
    · rw [if_neg c] at hk
      refine ev_neg c (ev_pos (by omega) (ih (i + 1) (out ++ [trimB P[i]]) (by omega) (by rw [List.length_append, List.length_cons, List.length_nil]; omega) ?_))
      rw [List.append_assoc, List.singleton_append]
      exact hk
theorem list_loop (V : List ByteArray) (hV : ∀ v ∈ V, v.size ≤ 1000) (hl : V.length ≤ 1000) (d : Nat) : ∀ (j : Nat) (out : List ByteArray), j + d = V.length → out.length ≤ 1001 * j →
    Ev (fun k => head_List.l0 k out V (V.length : Int) (j : Int)) (out ++ listV (V.drop j)) := by
  induction d with
  | zero =>
    intro j out hj ho
    rw [List.drop_of_length_le (by omega)]
    exact Ev.step (fun k => head_List.l0.eq_2 ..) (ev_neg (by omega) (ev_now (List.append_nil out).symm))
  | succ d ih =>
    intro j out hj ho
    have hlt : j < V.length := by omega
    have e : wrap64 ((j : Int) + 1) = ((j + 1 : Nat) : Int) := by unfold wrap64; omega
    have hs := hV _ (List.getElem_mem hlt)
    have hk := keepT_length (pieces V[j] 44)
    have hp := pieces_length V[j] 44
    rw [List.drop_eq_getElem_cons hlt]
    unfold listV
    refine Ev.step (fun k => head_List.l0.eq_2 ..) (ev_pos (by omega) (ev_pos (by omega) (ev_pos (by omega) ?_)))
    rw [rdOf_at V j hlt]
    refine Ev.bind (Split_ev V[j] 44 hs) (list_inner V j (pieces V[j] 44) (fun p hp => Nat.le_trans (pieces_size V[j] 44 p hp) hs) (by omega) (by omega) _ (pieces V[j] 44).length 0 out (by omega) (by omega) ?_)
    rw [List.drop_zero, e, ← List.append_assoc]
    exact ih (j + 1) (out ++ keepT (pieces V[j] 44)) (by omega) (by rw [List.length_append]; omega)
theorem List_ev (n : ByteArray) (hn : n.size ≤ 1000) (l : List S26) (hl : l.length ≤ 1000) (hh : Hs l) : Ev (fun k => head_List.f k l n) (listV (allB n l)) := by
  unfold head_List.f
  refine ev_get (All_eq n hn l hl hh) ?_
  exact list_loop (allB n l) (allB_size n l hh) (Nat.le_trans (allB_length n l) hl) (allB n l).length 0 [] (by omega) (by simp)
theorem refList_inner (V : List ByteArray) (j : Nat) (P : List ByteArray) (hP : ∀ p ∈ P, p.size ≤ 1000) (hl : P.length ≤ 1001) (hj : j ≤ 1000) (R : List ByteArray) (d : Nat) : ∀ (i : Nat) (out : List ByteArray), i + d = P.length → out.length ≤ 1001 * j + i →
    Ev (fun k => abatisref14_List.l0 k V (out ++ keepT (P.drop i)) (wrap64 ((j : Int) + 1))) R → Ev (fun k => abatisref14_List.l1 k V out (j : Int) P (i : Int)) R := by
  induction d with
  | zero =>
    intro i out hi ho hk
    rw [List.drop_of_length_le (by omega)] at hk
    unfold keepT at hk
    rw [List.append_nil] at hk
    exact Ev.step (fun k => abatisref14_List.l1.eq_2 ..) (ev_neg (by omega) hk)
  | succ d ih =>
    intro i out hi ho hk
    have hlt : i < P.length := by omega
    have e : wrap64 ((i : Int) + 1) = ((i + 1 : Nat) : Int) := by unfold wrap64; omega
    have hs := hP _ (List.getElem_mem hlt)
    rw [List.drop_eq_getElem_cons hlt] at hk
    unfold keepT at hk
    refine Ev.step (fun k => abatisref14_List.l1.eq_2 ..) (ev_pos (by omega) (ev_pos (by omega) ?_))
    rw [rdOf_at P i hlt, e]
    refine Ev.bind (refTrim_ev P[i] hs).1 ?_
    by_cases c : (trimB P[i]).toList = ([] : List UInt8)
    · rw [if_pos c] at hk
      exact ev_pos c (ih (i + 1) out (by omega) (by omega) hk)
    · rw [if_neg c] at hk
      refine ev_neg c (ev_pos (by omega) (ih (i + 1) (out ++ [trimB P[i]]) (by omega) (by rw [List.length_append, List.length_cons, List.length_nil]; omega) ?_))
      rw [List.append_assoc, List.singleton_append]
      exact hk
theorem refList_loop (V : List ByteArray) (hV : ∀ v ∈ V, v.size ≤ 1000) (hl : V.length ≤ 1000) (d : Nat) : ∀ (j : Nat) (out : List ByteArray), j + d = V.length → out.length ≤ 1001 * j →
    Ev (fun k => abatisref14_List.l0 k V out (j : Int)) (out ++ listV (V.drop j)) := by
  induction d with
  | zero =>
    intro j out hj ho
    rw [List.drop_of_length_le (by omega)]
    exact Ev.step (fun k => abatisref14_List.l0.eq_2 ..) (ev_neg (by omega) (ev_now (List.append_nil out).symm))
  | succ d ih =>
    intro j out hj ho
    have hlt : j < V.length := by omega
    have e : wrap64 ((j : Int) + 1) = ((j + 1 : Nat) : Int) := by unfold wrap64; omega
    have hs := hV _ (List.getElem_mem hlt)
    have hk := keepT_length (pieces V[j] 44)
    have hp := pieces_length V[j] 44
    rw [List.drop_eq_getElem_cons hlt]
    unfold listV
    refine Ev.step (fun k => abatisref14_List.l0.eq_2 ..) (ev_pos (by omega) (ev_pos (by omega) ?_))
    rw [rdOf_at V j hlt]
    refine Ev.bind (refSplit_ev V[j] 44 hs) (refList_inner V j (pieces V[j] 44) (fun p hp => Nat.le_trans (pieces_size V[j] 44 p hp) hs) (by omega) (by omega) _ (pieces V[j] 44).length 0 out (by omega) (by omega) ?_)
    rw [List.drop_zero, e, ← List.append_assoc]
    exact ih (j + 1) (out ++ keepT (pieces V[j] 44)) (by omega) (by rw [List.length_append]; omega)
theorem refList_ev (n : ByteArray) (hn : n.size ≤ 1000) (l : List S26) (hl : l.length ≤ 1000) (hh : Hs l) : Ev (fun k => abatisref14_List.f k l n) (listV (allB n l)) := by
  unfold abatisref14_List.f
  refine Ev.bind (refAll_ev n hn l hl hh) ?_
  exact refList_loop (allB n l) (allB_size n l hh) (Nat.le_trans (allB_length n l) hl) (allB n l).length 0 [] (by omega) (by simp)
theorem split_none (c : Int) : ∀ l : List Int, (∀ x ∈ l, x ≠ c) → splitB c l = (l, [])
  | [], _ => rfl
  | x :: l, h => by
    have e1 : splitB c (x :: l) = if x = c then ([], (splitB c l).1 :: (splitB c l).2) else (x :: (splitB c l).1, (splitB c l).2) := rfl
    rw [e1, if_neg (h x List.mem_cons_self), split_none c l (fun y hy => h y (List.mem_cons_of_mem _ hy))]
end Go.Proofs.YthjhbhgfckaklabDoor.P
