/-
  Plain laws, put together by mkpl.py.
-/
import Derived.Test.YthjhbhgfckaklaaDoorBase
import Derived.Test.YthjhbhgfckaklaaDoorPL11
import Derived.Test.YthjhbhgfckaklaaDoorPL21
import Derived.Test.YthjhbhgfckaklaaDoorCspG
import Derived.Test.YthjhbhgfckaklaaDoorPA1
import Derived.Test.YthjhbhgfckaklaaDoorPA2
import Derived.Test.YthjhbhgfckaklaaDoorPA3
import Derived.Test.YthjhbhgfckaklaaDoorPA4
import Derived.Test.YthjhbhgfckaklaaDoorPA5
namespace Go.Proofs.YthjhbhgfckaklaaDoor.P
open Go.RowKit Go.Proofs.YthjhbhgfckaklaaDoorW.PrintWords Go.Proofs.YthjhbhgfckaklaaDoorW.PrintLast Go.Proofs.YthjhbhgfckaklaaDoorW.PrintMore
set_option linter.unusedVariables false
set_option linter.unusedSimpArgs false

def few (s : ByteArray) (n : Nat) : ByteArray := if n < s.size then s.extract 0 n else s
theorem few_size (s : ByteArray) (n : Nat) : (few s n).size ≤ n := by
  unfold few
  split
  · rw [ByteArray.size_extract]; omega
  · omega
theorem Few_eq (s : ByteArray) (n : Nat) : abatisref01_Few.f s (n : Int) = some (few s n) := by
  unfold abatisref01_Few.f few
  by_cases h : n < s.size
  · rw [if_pos (by omega), if_pos (by omega), if_pos (by omega), if_pos h]; simp
  · rw [if_neg (by omega), if_neg h]
/-! ### small letters -/
def lowS (s : ByteArray) : ByteArray := strOfNums ((bytesOf s).map lowB)
theorem Lower_eq (s : ByteArray) (h : s.size ≤ 1000) : text_Lower.f s = some (lowS s) := by
  unfold text_Lower.f; rw [if_pos (by omega)]; rfl
theorem lowB_cases (c : Int) (h0 : 0 ≤ c) (h1 : c ≤ 255) : lowB c = if c ≥ 65 then (if c ≤ 90 then (c + 32) % 256 else c) else c := by
  unfold lowB
  by_cases a : 65 ≤ c
  · by_cases b : c ≤ 90
    · rw [if_pos ⟨a, b⟩, if_pos a, if_pos b]; omega
    · rw [if_neg (fun h => b h.2), if_pos a, if_neg b]
  · rw [if_neg (fun h => a h.1), if_neg a]
theorem lowB_range (c : Int) (h0 : 0 ≤ c) (h1 : c ≤ 255) : 0 ≤ lowB c ∧ lowB c ≤ 255 := by unfold lowB; split <;> omega
theorem lowB_twice (c : Int) : lowB (lowB c) = lowB c := by unfold lowB; split <;> (try split) <;> omega
theorem size_lowS (s : ByteArray) : (lowS s).size = s.size := by
  unfold lowS; rw [size_strOf, List.length_map, bytesOf_length]
theorem bytes_lowS (s : ByteArray) : bytesOf (lowS s) = (bytesOf s).map lowB := by
  unfold lowS
  refine bytesOf_strOf _ (fun x hx => ?_)
  simp only [List.mem_map] at hx
  obtain ⟨c, hc, rfl⟩ := hx
  have := bytesOf_range s c hc
  exact lowB_range c this.1 this.2
theorem lowS_twice (s : ByteArray) : lowS (lowS s) = lowS s := by
  show strOfNums ((bytesOf (lowS s)).map lowB) = lowS s
  rw [bytes_lowS, List.map_map]
  unfold lowS
  congr 1
  apply List.map_congr_left
  intro c _
  exact lowB_twice c
theorem refLower_loop (s : ByteArray) (hs : s.size ≤ 1000) (d : Nat) : ∀ i : Nat, i + d = s.size →
    Ev (fun k => abatisref01_Lower.l0 k s (((bytesOf s).take i).map lowB) (i : Int)) (lowS s) := by
  induction d with
  | zero =>
    intro i hi
    refine Ev.step (fun k => abatisref01_Lower.l0.eq_2 ..) (ev_neg (by omega) (ev_now ?_))
    rw [List.take_of_length_le (by rw [bytesOf_length]; omega)]
    rfl
  | succ d ih =>
    intro i hi
    have hr := bt_range s i
    have e : wrap64 ((i : Int) + 1) = ((i + 1 : Nat) : Int) := by unfold wrap64; omega
    have hl : (((bytesOf s).take i).map lowB).length < 140737488355328 := by
      rw [List.length_map, List.length_take, bytesOf_length]; omega
    have hn := ih (i + 1) (by omega)
    rw [bytesOf_take s i (by omega), List.map_append, List.map_cons, List.map_nil, lowB_cases _ hr.1 hr.2] at hn
    refine Ev.step (fun k => abatisref01_Lower.l0.eq_2 ..) (ev_pos (by omega) (ev_pos (by omega) ?_))
    rw [e]
    by_cases a : bt s i ≥ 65
    · by_cases b : bt s i ≤ 90
      · rw [if_pos a, if_pos b] at hn
        exact ev_pos a (ev_pos b (ev_pos hl hn))
      · rw [if_pos a, if_neg b] at hn
        exact ev_pos a (ev_neg b (ev_pos hl hn))
    · rw [if_neg a] at hn
      exact ev_neg a (ev_pos hl hn)
theorem refLower_ev (s : ByteArray) (hs : s.size ≤ 1000) : Ev (fun k => abatisref01_Lower.f k s) (lowS s) := refLower_loop s hs s.size 0 (by omega)
theorem refLike_ev (a b : ByteArray) (ha : a.size ≤ 1000) (hb : b.size ≤ 1000) : Ev (fun k => abatisref01_Like.f k a b) ((lowS a).toList == (lowS b).toList) :=
  Ev.bind (refLower_ev a ha) (Ev.bind (refLower_ev b hb) (Ev.now _))
theorem Like_eq (a b : ByteArray) (ha : a.size ≤ 1000) (hb : b.size ≤ 1000) : text_Like.f a b = some ((lowS a).toList == (lowS b).toList) := by
  unfold text_Like.f; rw [Lower_eq a ha, Lower_eq b hb]; rfl
/-! ### pieces -/
/-- The first piece, and the others. -/
def splitB (c : Int) : List Int → List Int × List (List Int)
  | [] => ([], [])
  | x :: l => if x = c then ([], (splitB c l).1 :: (splitB c l).2) else (x :: (splitB c l).1, (splitB c l).2)
def pieces (s : ByteArray) (c : Int) : List ByteArray := strOfNums (splitB c (bytesOf s)).1 :: (splitB c (bytesOf s)).2.map strOfNums
theorem strOf_append (a b : List Int) : strOfNums (a ++ b) = strOfNums a ++ strOfNums b := by
  apply ByteArray.ext
  apply Array.ext'
  unfold strOfNums
  simp
theorem splitB_append (c : Int) : ∀ (a b : List Int), splitB c (a ++ c :: b) = ((splitB c a).1, (splitB c a).2 ++ (splitB c b).1 :: (splitB c b).2)
  | [], b => by simp [splitB]
  | x :: a, b => by
    have e1 : ∀ l, splitB c (x :: l) = if x = c then ([], (splitB c l).1 :: (splitB c l).2) else (x :: (splitB c l).1, (splitB c l).2) := fun l => rfl
    rw [List.cons_append, e1, e1, splitB_append c a b]
    split <;> simp
theorem pieces_append (a b sep : ByteArray) (c : Int) (h : bytesOf sep = [c]) : pieces (a ++ sep ++ b) c = pieces a c ++ pieces b c := by
  unfold pieces
  rw [bytesOf_append, bytesOf_append, h, List.append_assoc, List.singleton_append, splitB_append]
  simp
theorem splitB_small (c : Int) : ∀ (l : List Int), (splitB c l).1.length ≤ l.length ∧ (∀ p ∈ (splitB c l).2, p.length ≤ l.length) ∧ (splitB c l).2.length ≤ l.length
  | [] => by simp [splitB]
  | x :: l => by
    have ih := splitB_small c l
    unfold splitB
    split
    · refine ⟨by simp, fun p hp => ?_, ?_⟩
      · rw [List.length_cons]
        rcases List.mem_cons.1 hp with rfl | hp
        · have := ih.1; omega
        · have := ih.2.1 p hp; omega
      · rw [List.length_cons, List.length_cons]; have := ih.2.2; omega
    · refine ⟨?_, fun p hp => ?_, ?_⟩
      · rw [List.length_cons, List.length_cons]; have := ih.1; omega
      · rw [List.length_cons]; have := ih.2.1 p hp; omega
      · rw [List.length_cons]; have := ih.2.2; show (splitB c l).2.length ≤ _; omega
theorem pieces_size (s : ByteArray) (c : Int) : ∀ p ∈ pieces s c, p.size ≤ s.size := by
  have h := splitB_small c (bytesOf s)
  rw [bytesOf_length] at h
  intro p hp
  unfold pieces at hp
  rcases List.mem_cons.1 hp with rfl | hp
  · rw [size_strOf]; exact h.1
  · simp only [List.mem_map] at hp
    obtain ⟨q, hq, rfl⟩ := hp
    rw [size_strOf]; exact h.2.1 q hq
theorem pieces_length (s : ByteArray) (c : Int) : (pieces s c).length ≤ s.size + 1 := by
  have h := splitB_small c (bytesOf s)
  rw [bytesOf_length] at h
  unfold pieces
  rw [List.length_cons, List.length_map]
  omega
theorem extract_one (s : ByteArray) (i : Nat) (h : i < s.size) : s.extract i (i + 1) = strOfNums [bt s i] := by
  rw [bt_get s i h]
  apply ByteArray.ext
  apply Array.ext'
  unfold strOfNums
  simp only [ByteArray.data_extract, Array.toList_extract, List.map_cons, List.map_nil, Int.toNat_natCast]
  have hl : i < s.data.toList.length := by rw [data_length]; exact h
  have : s.data.toList[i] = s[i]'h := by rw [Array.getElem_toList]; rfl
  simp [List.extract_eq_take_drop, List.drop_eq_getElem_cons hl, this]
theorem set_last (l : List ByteArray) (a b : ByteArray) : (l ++ [a]).set l.length b = l ++ [b] := by
  induction l with
  | nil => rfl
  | cons x l ih => simp [ih]
theorem rdOf_last (l : List ByteArray) (a : ByteArray) (j : Int) (hj : j = (l.length : Int)) : rdOf ByteArray.empty (l ++ [a]) j = a := by
  subst hj
  unfold rdOf
  rw [Int.toNat_natCast]
  simp
theorem empty_append' (a : ByteArray) : (⟨#[]⟩ : ByteArray) ++ a = a := by apply ByteArray.ext; simp
theorem append_empty' (a : ByteArray) : a ++ (⟨#[]⟩ : ByteArray) = a := by apply ByteArray.ext; simp
theorem extract_none (s : ByteArray) (i : Nat) : s.extract i i = (⟨#[]⟩ : ByteArray) := by
  apply ByteArray.ext
  apply Array.eq_empty_of_size_eq_zero
  simp
theorem Split_loop (s : ByteArray) (c : Int) (hs : s.size ≤ 1000) (d : Nat) : ∀ (i : Nat) (out : List ByteArray) (cur : ByteArray), i + d = s.size → out.length ≤ i → cur.size ≤ i →
    Ev (fun k => text_Split.l0 k s c (out ++ [cur]) (s.size : Int) (i : Int)) (out ++ (cur ++ strOfNums (splitB c ((bytesOf s).drop i)).1) :: (splitB c ((bytesOf s).drop i)).2.map strOfNums) := by
  induction d with
  | zero =>
    intro i out cur hi ho hc
    rw [List.drop_of_length_le (by rw [bytesOf_length]; omega)]
    refine Ev.step (fun k => text_Split.l0.eq_2 ..) (ev_neg (by omega) (ev_now ?_))
    show out ++ [cur] = out ++ [cur ++ (⟨#[]⟩ : ByteArray)]
    rw [append_empty']
  | succ d ih =>
    intro i out cur hi ho hcs
    have hlt : i < s.size := by omega
    have e : wrap64 ((i : Int) + 1) = ((i + 1 : Nat) : Int) := by unfold wrap64; omega
    rw [bytesOf_drop s i hlt]
    unfold splitB
    by_cases hc : bt s i = c
    · rw [if_pos hc]
      have h2 := ih (i + 1) (out ++ [cur]) (⟨#[]⟩ : ByteArray) (by omega) (by rw [List.length_append, List.length_cons, List.length_nil]; omega) (Nat.zero_le _)
      refine Ev.step (fun k => text_Split.l0.eq_2 ..) (ev_pos (by omega) (ev_pos (by omega) (ev_pos (by omega) (ev_pos hc (ev_pos ?_ ?_)))))
      · rw [List.length_append, List.length_cons, List.length_nil]; omega
      · rw [e]
        rw [empty_append', List.append_assoc out [cur] (strOfNums (splitB c ((bytesOf s).drop (i + 1))).1 :: (splitB c ((bytesOf s).drop (i + 1))).2.map strOfNums)] at h2
        rw [List.map_cons]
        show Ev _ (out ++ (cur ++ (⟨#[]⟩ : ByteArray)) :: _)
        rw [append_empty']
        exact h2
    · rw [if_neg hc]
      have hz2 : (s.extract i (i + 1)).size = 1 := by rw [ByteArray.size_extract]; omega
      have h2 := ih (i + 1) out (cur ++ s.extract i (i + 1)) (by omega) (by omega) (by rw [ByteArray.size_append]; omega)
      have hl : (((out ++ [cur]).length : Nat) : Int) = (out.length : Int) + 1 := by rw [List.length_append, List.length_cons, List.length_nil]; omega
      have hw : wrap64 (((out ++ [cur]).length : Int) - 1) = (out.length : Int) := by rw [hl]; unfold wrap64; omega
      refine Ev.step (fun k => text_Split.l0.eq_2 ..) (ev_pos (by omega) (ev_pos (by omega) (ev_pos (by omega) (ev_neg hc ?_))))
      rw [hw, e, rdOf_last _ _ _ rfl, Int.toNat_natCast, Int.toNat_natCast, Int.toNat_natCast, set_last]
      rw [ByteArray.append_assoc, extract_one s i hlt, ← strOf_append, List.singleton_append] at h2
      rw [extract_one s i hlt] at hz2 ⊢
      exact ev_pos (by omega) (ev_pos (by omega) (ev_pos (by omega) (ev_pos (by omega) (ev_pos (by omega) h2))))
theorem Split_ev (s : ByteArray) (c : Int) (hs : s.size ≤ 1000) : Ev (fun k => text_Split.f k s c) (pieces s c) := by
  have h := Split_loop s c hs s.size 0 [] (⟨#[]⟩ : ByteArray) (by omega) (by simp) (Nat.zero_le _)
  rw [List.drop_zero, empty_append'] at h
  exact h
theorem refSplit_loop (s : ByteArray) (c : Int) (hs : s.size ≤ 1000) (d : Nat) : ∀ (i p : Nat) (out : List ByteArray), i + d = s.size → p ≤ i → out.length ≤ i →
    Ev (fun k => abatisref01_Split.l0 k s c out (p : Int) (i : Int)) (out ++ (s.extract p i ++ strOfNums (splitB c ((bytesOf s).drop i)).1) :: (splitB c ((bytesOf s).drop i)).2.map strOfNums) := by
  induction d with
  | zero =>
    intro i p out hi hp ho
    obtain rfl : i = s.size := by omega
    rw [List.drop_of_length_le (by rw [bytesOf_length]; omega)]
    refine Ev.step (fun k => abatisref01_Split.l0.eq_2 ..) (ev_neg (by omega) (ev_pos (by omega) (ev_pos (by omega) (ev_pos (by omega) (ev_now ?_)))))
    show out ++ [s.extract p s.size] = out ++ [s.extract p s.size ++ (⟨#[]⟩ : ByteArray)]
    rw [append_empty']
  | succ d ih =>
    intro i p out hi hp ho
    have hlt : i < s.size := by omega
    have e : wrap64 ((i : Int) + 1) = ((i + 1 : Nat) : Int) := by unfold wrap64; omega
    rw [bytesOf_drop s i hlt]
    unfold splitB
    by_cases hc : bt s i = c
    · rw [if_pos hc]
      have h1 := ih (i + 1) (i + 1) (out ++ [s.extract p i]) (by omega) (by omega) (by rw [List.length_append, List.length_cons, List.length_nil]; omega)
      refine Ev.step (fun k => abatisref01_Split.l0.eq_2 ..) (ev_pos (by omega) (ev_pos (by omega) (ev_pos hc (ev_pos (by omega) (ev_pos (by omega) (ev_pos (by omega) (ev_pos (by omega) ?_)))))))
      rw [e, Int.toNat_natCast, Int.toNat_natCast]
      rw [extract_none, empty_append', List.append_assoc out [s.extract p i] (strOfNums (splitB c ((bytesOf s).drop (i + 1))).1 :: (splitB c ((bytesOf s).drop (i + 1))).2.map strOfNums)] at h1
      rw [List.map_cons]
      show Ev _ (out ++ (s.extract p i ++ (⟨#[]⟩ : ByteArray)) :: _)
      rw [append_empty']
      exact h1
    · rw [if_neg hc]
      have h1 := ih (i + 1) p out (by omega) (by omega) (by omega)
      refine Ev.step (fun k => abatisref01_Split.l0.eq_2 ..) (ev_pos (by omega) (ev_pos (by omega) (ev_neg hc ?_)))
      rw [e]
      rw [ByteArray.extract_eq_extract_append_extract i (by omega) (by omega), ByteArray.append_assoc, extract_one s i hlt, ← strOf_append, List.singleton_append] at h1
      exact h1
theorem refSplit_ev (s : ByteArray) (c : Int) (hs : s.size ≤ 1000) : Ev (fun k => abatisref01_Split.f k s c) (pieces s c) := by
  have h := refSplit_loop s c hs s.size 0 0 [] (by omega) (by omega) (by simp)
  rw [List.drop_zero, extract_none, empty_append'] at h
  exact h
/-! ### words -/
def wordsOf (p : ByteArray) : List ByteArray := Lib.goFieldsP blankN p
theorem words_size (p : ByteArray) : ∀ x ∈ wordsOf p, x.size ≤ p.size := by
  intro x hx
  unfold wordsOf Lib.goFieldsP at hx
  simp only [List.mem_map] at hx
  obtain ⟨y, _, rfl⟩ := hx
  rw [ByteArray.size_extract]
  omega
theorem spans_length (p : Nat → Bool) (s : ByteArray) : ∀ (f pos : Nat) (st : Option Nat) (acc : List (Nat × Nat)), (Lib.spansFromP p s f pos st acc).1.length ≤ acc.length + f
  | 0, pos, st, acc => by simp [Lib.spansFromP]
  | f + 1, pos, st, acc => by
    unfold Lib.spansFromP
    split
    · split
      · cases st with
        | none => have := spans_length p s f (pos + (Utf8.decode s pos).2) none acc; simp only; omega
        | some a =>
          have := spans_length p s f (pos + (Utf8.decode s pos).2) none (acc ++ [(a, pos)])
          rw [List.length_append, List.length_cons, List.length_nil] at this
          simp only
          omega
      · cases st with
        | none => have := spans_length p s f (pos + (Utf8.decode s pos).2) (some pos) acc; simp only; omega
        | some a => have := spans_length p s f (pos + (Utf8.decode s pos).2) (some a) acc; simp only; omega
    · simp
theorem words_length (p : ByteArray) : (wordsOf p).length ≤ p.size + 1 := by
  unfold wordsOf Lib.goFieldsP Lib.spansOfP Lib.closeSpans
  have := spans_length blankN p p.size 0 none []
  rw [List.length_map]
  rw [List.length_nil] at this
  split
  · rw [List.length_append, List.length_cons, List.length_nil]; omega
  · omega
theorem Words_eq (p : ByteArray) (h : p.size ≤ 1000) : csp_Words.f p = some (wordsOf p) := by
  unfold csp_Words.f
  rw [if_pos (by omega)]
  rfl
/-! ### directives -/
def dNames (out : List S79) : List ByteArray := out.map S79.f0
def pStep (out : List S79) (p : ByteArray) : List S79 :=
  match wordsOf p with
  | [] => out
  | h :: t => if memB (lowS h) (dNames out) = true then out else out ++ [⟨lowS h, t⟩]
def parseB (s : ByteArray) : List S79 := (pieces s 59).foldl pStep []
theorem rdOf_at (l : List ByteArray) (i : Nat) (h : i < l.length) : rdOf ByteArray.empty l (i : Int) = l[i] := by
  unfold rdOf
  rw [Int.toNat_natCast, List.getD_eq_getElem?_getD, List.getElem?_eq_getElem h]
  rfl
theorem pStep_more (out : List S79) (p : ByteArray) : ∃ t, pStep out p = out ++ t ∧ t.length ≤ 1 := by
  unfold pStep
  split
  · exact ⟨[], by simp, by simp⟩
  · split
    · exact ⟨[], by simp, by simp⟩
    · exact ⟨_, rfl, by simp⟩
theorem parse_loop (P : List ByteArray) (hP : ∀ p ∈ P, p.size ≤ 1000) (hl : P.length ≤ 10000) (d : Nat) : ∀ (i : Nat) (out : List S79), i + d = P.length → out.length ≤ i →
    Ev (fun k => csp_Parse.l0 k out P (P.length : Int) (i : Int)) ((P.drop i).foldl pStep out) := by
  induction d with
  | zero =>
    intro i out hi ho
    rw [List.drop_of_length_le (by omega)]
    exact Ev.step (fun k => csp_Parse.l0.eq_2 ..) (ev_neg (by omega) (ev_now rfl))
  | succ d ih =>
    intro i out hi ho
    have hlt : i < P.length := by omega
    have e : wrap64 ((i : Int) + 1) = ((i + 1 : Nat) : Int) := by unfold wrap64; omega
    have hps := hP P[i] (List.getElem_mem hlt)
    have hws := words_size P[i]
    rw [List.drop_eq_getElem_cons hlt, List.foldl_cons]
    refine Ev.step (fun k => csp_Parse.l0.eq_2 ..) (ev_pos (by omega) (ev_pos (by omega) (ev_pos (by omega) ?_)))
    rw [rdOf_at P i hlt, e]
    refine ev_get (Words_eq _ hps) ?_
    cases hw : wordsOf P[i] with
    | nil =>
      have hst : pStep out P[i] = out := by unfold pStep; rw [hw]
      rw [hst]
      exact ev_pos rfl (ih (i + 1) out (by omega) (by omega))
    | cons h t =>
      have hh : h.size ≤ 1000 := Nat.le_trans (hws h (by rw [hw]; exact List.mem_cons_self)) hps
      have hr : rdOf ByteArray.empty (h :: t) 0 = h := rfl
      have hsz : (lowS h).size ≤ 1000000 ∧ out.length ≤ 1000000 := by rw [size_lowS]; omega
      have hf : csp_Parse_1.f out (lowS h) = some (memB (lowS h) (dNames out)) := by
        unfold csp_Parse_1.f
        rw [if_pos hsz]
        rfl
      refine ev_neg (by rw [List.length_cons]; omega) (ev_pos (by rw [List.length_cons]; omega) ?_)
      rw [hr]
      refine ev_get (Lower_eq h hh) (ev_get hf ?_)
      by_cases hm : memB (lowS h) (dNames out) = true
      · have hst : pStep out P[i] = out := by unfold pStep; rw [hw]; exact if_pos hm
        rw [hst]
        exact ev_pos hm (ih (i + 1) out (by omega) (by omega))
      · have hst : pStep out P[i] = out ++ [⟨lowS h, t⟩] := by unfold pStep; rw [hw]; exact if_neg hm
        rw [hst]
        refine ev_neg hm (ev_get (Lower_eq h hh) (ev_pos (by rw [List.length_cons]; omega) (ev_pos (by omega) ?_)))
        exact ih (i + 1) (out ++ [⟨lowS h, t⟩]) (by omega) (by rw [List.length_append, List.length_cons, List.length_nil]; omega)
theorem Parse_ev (s : ByteArray) (hs : s.size ≤ 1000) : Ev (fun k => csp_Parse.f k s) (parseB s) := by
  unfold csp_Parse.f
  refine Ev.bind (Split_ev s 59 hs) ?_
  have hl := pieces_length s 59
  exact parse_loop (pieces s 59) (fun p hp => Nat.le_trans (pieces_size s 59 p hp) hs) (by omega) (pieces s 59).length 0 [] (by omega) (by simp)
theorem fold_more (P : List ByteArray) : ∀ out : List S79, ∃ t, P.foldl pStep out = out ++ t ∧ t.length ≤ P.length := by
  induction P with
  | nil => intro out; exact ⟨[], by simp, by simp⟩
  | cons p P ih =>
    intro out
    obtain ⟨t, ht, hl⟩ := pStep_more out p
    obtain ⟨u, hu, hm⟩ := ih (pStep out p)
    refine ⟨t ++ u, ?_, ?_⟩
    · rw [List.foldl_cons, hu, ht, List.append_assoc]
    · rw [List.length_append, List.length_cons]; omega
/-- A piece whose directive is there already, if it has one. -/
def knownP (out : List S79) (p : ByteArray) : Prop := ∀ h t, wordsOf p = h :: t → memB (lowS h) (dNames out) = true
theorem known_step (out : List S79) (p : ByteArray) (hk : knownP out p) : pStep out p = out := by
  unfold pStep
  split
  · rfl
  · rename_i h t hw
    rw [if_pos (hk h t hw)]
theorem known_more (out t : List S79) (p : ByteArray) (hk : knownP out p) : knownP (out ++ t) p := by
  intro h u hw
  have := memB_iff.1 (hk h u hw)
  refine memB_iff.2 ?_
  unfold dNames at this ⊢
  rw [List.map_append]
  exact List.mem_append_left _ this
theorem known_now (out : List S79) (p : ByteArray) : knownP (pStep out p) p := by
  intro h t hw
  unfold pStep
  rw [hw]
  simp only
  by_cases hm : memB (lowS h) (dNames out) = true
  · rw [if_pos hm]; exact hm
  · rw [if_neg hm]
    refine memB_iff.2 ?_
    unfold dNames
    rw [List.map_append]
    exact List.mem_append_right _ (by simp)
theorem fold_known (P : List ByteArray) : ∀ out : List S79, ∀ p ∈ P, knownP (P.foldl pStep out) p := by
  induction P with
  | nil => intro out p hp; cases hp
  | cons q P ih =>
    intro out p hp
    rw [List.foldl_cons]
    rcases List.mem_cons.1 hp with rfl | hp
    · obtain ⟨t, ht, _⟩ := fold_more P (pStep out p)
      rw [ht]
      exact known_more _ _ _ (known_now out p)
    · exact ih _ p hp
theorem fold_same (P : List ByteArray) (out : List S79) (h : ∀ p ∈ P, knownP out p) : P.foldl pStep out = out := by
  induction P with
  | nil => rfl
  | cons q P ih =>
    rw [List.foldl_cons, known_step out q (h q List.mem_cons_self)]
    exact ih (fun p hp => h p (List.mem_cons_of_mem _ hp))
theorem fold_small (P : List ByteArray) (hP : ∀ p ∈ P, p.size ≤ 1000) : ∀ out : List S79, (∀ x ∈ out, x.f1.length ≤ 2000) → ∀ x ∈ P.foldl pStep out, x.f1.length ≤ 2000 := by
  induction P with
  | nil => intro out h; exact h
  | cons q P ih =>
    intro out h
    rw [List.foldl_cons]
    refine ih (fun p hp => hP p (List.mem_cons_of_mem _ hp)) _ (fun x hx => ?_)
    have hq := hP q List.mem_cons_self
    have hw := words_length q
    unfold pStep at hx
    split at hx
    · exact h x hx
    · rename_i a t he
      rw [he, List.length_cons] at hw
      split at hx
      · exact h x hx
      · rcases List.mem_append.1 hx with hx | hx
        · exact h x hx
        · rw [List.mem_singleton.1 hx]
          show t.length ≤ 2000
          omega
theorem parse_small (s : ByteArray) (hs : s.size ≤ 1000) : (parseB s).length ≤ 2000 ∧ ∀ x ∈ parseB s, x.f1.length ≤ 2000 := by
  have hl := pieces_length s 59
  obtain ⟨t, ht, hm⟩ := fold_more (pieces s 59) []
  refine ⟨?_, fold_small _ (fun p hp => Nat.le_trans (pieces_size s 59 p hp) hs) [] (fun x hx => by cases hx)⟩
  unfold parseB
  rw [ht, List.nil_append]
  omega
/-! ### the document's form of directives, and sameness -/
def asB (l : List S79) : List S77 := l.map fun x => ⟨x.f0, x.f1⟩
theorem take_snocD (l : List S79) (i : Nat) (h : i < l.length) : l.take (i + 1) = l.take i ++ [rd_T79 l (i : Int)] := by
  rw [List.take_add_one, List.getElem?_eq_getElem h]
  unfold rd_T79
  rw [Int.toNat_natCast, List.getD_eq_getElem?_getD, List.getElem?_eq_getElem h]
  rfl
theorem as_loop (l : List S79) (hl : l.length ≤ 100000) (d : Nat) : ∀ i : Nat, i + d = l.length → Ev (fun k => abatislaw15_as.l0 k l (asB (l.take i)) (i : Int)) (asB l) := by
  induction d with
  | zero =>
    intro i hi
    rw [List.take_of_length_le (by omega)]
    exact Ev.step (fun k => abatislaw15_as.l0.eq_2 ..) (ev_neg (by omega) (ev_now rfl))
  | succ d ih =>
    intro i hi
    have e : wrap64 ((i : Int) + 1) = ((i + 1 : Nat) : Int) := by unfold wrap64; omega
    have hn := ih (i + 1) (by omega)
    rw [take_snocD l i (by omega)] at hn
    have ha : (asB (l.take i)).length ≤ 100000 := by unfold asB; rw [List.length_map, List.length_take]; omega
    refine Ev.step (fun k => abatislaw15_as.l0.eq_2 ..) (ev_pos (by omega) (ev_pos (by omega) (ev_pos (by omega) ?_)))
    rw [e]
    unfold asB at hn ⊢
    rw [List.map_append] at hn
    exact hn
theorem as_ev (l : List S79) (hl : l.length ≤ 100000) : Ev (fun k => abatislaw15_as.f k l) (asB l) := as_loop l hl l.length 0 (by omega)
theorem same_loop (l : List ByteArray) (hl : l.length ≤ 100000) (d : Nat) : ∀ i : Nat, i + d = l.length → Ev (fun k => abatisref01_Same.l0 k l l (i : Int)) true := by
  induction d with
  | zero => intro i hi; exact Ev.step (fun k => abatisref01_Same.l0.eq_2 ..) (ev_neg (by omega) (ev_now rfl))
  | succ d ih =>
    intro i hi
    have e : wrap64 ((i : Int) + 1) = ((i + 1 : Nat) : Int) := by unfold wrap64; omega
    refine Ev.step (fun k => abatisref01_Same.l0.eq_2 ..) (ev_pos (by omega) (ev_pos (by omega) (ev_pos (by omega) (ev_pos rfl ?_))))
    rw [e]
    exact ih (i + 1) (by omega)
theorem same_ev (l : List ByteArray) (hl : l.length ≤ 100000) : Ev (fun k => abatisref01_Same.f k l l) true := by
  unfold abatisref01_Same.f
  exact ev_pos rfl (same_loop l hl l.length 0 (by omega))
theorem sameD_loop (l : List S77) (hl : l.length ≤ 100000) (hx : ∀ x ∈ l, x.f1.length ≤ 100000) (d : Nat) : ∀ i : Nat, i + d = l.length → Ev (fun k => abatisref15_Same.l0 k l l (i : Int)) true := by
  induction d with
  | zero => intro i hi; exact Ev.step (fun k => abatisref15_Same.l0.eq_2 ..) (ev_neg (by omega) (ev_now rfl))
  | succ d ih =>
    intro i hi
    have hlt : i < l.length := by omega
    have e : wrap64 ((i : Int) + 1) = ((i + 1 : Nat) : Int) := by unfold wrap64; omega
    have hr : rd_T77 l (i : Int) = l[i] := by
      unfold rd_T77
      rw [Int.toNat_natCast, List.getD_eq_getElem?_getD, List.getElem?_eq_getElem hlt]
      rfl
    refine Ev.step (fun k => abatisref15_Same.l0.eq_2 ..) (ev_pos (by omega) (ev_pos (by omega) (ev_pos (by omega) (ev_pos rfl ?_))))
    rw [e, hr]
    exact Ev.bind (same_ev _ (hx _ (List.getElem_mem hlt))) (ev_true (ih (i + 1) (by omega)))
theorem sameD_ev (l : List S77) (hl : l.length ≤ 100000) (hx : ∀ x ∈ l, x.f1.length ≤ 100000) : Ev (fun k => abatisref15_Same.f k l l) true := by
  unfold abatisref15_Same.f
  exact ev_pos rfl (sameD_loop l hl hx l.length 0 (by omega))
theorem sameAs_ev (l : List S79) (hl : l.length ≤ 100000) (hx : ∀ x ∈ l, x.f1.length ≤ 100000) : Ev (fun k => abatisref15_Same.f k (asB l) (asB l)) true := by
  refine sameD_ev (asB l) (by unfold asB; rw [List.length_map]; exact hl) (fun x hm => ?_)
  unfold asB at hm
  simp only [List.mem_map] at hm
  obtain ⟨y, hy, rfl⟩ := hm
  exact hx y hy
theorem lives15_ev : Ev (fun k => abatislaw15_lives.f k) true := Ev.of (fun k => abatislaw15_lives.mono k) (k := 60) (by decide +kernel)
/-- All bytes of a sign behind its first one are great. -/
theorem decode_cont (s : ByteArray) (pos j : Nat) (h1 : 1 ≤ j) (h2 : j < (Utf8.decode s pos).2) : pos + j < s.size ∧ 128 ≤ (s.get! (pos + j)).toNat := by
  revert h2
  simp only [Utf8.decode]
  repeat' split
  all_goals intro h2
  all_goals simp only [Bool.and_eq_true, decide_eq_true_iff, beq_iff_eq] at *
  all_goals first
    | omega
    | (have h3 : j < 2 := h2
       have hj : j = 1 := by omega
       subst hj
       exact ⟨by omega, by omega⟩)
    | (have h3 : j < 3 := h2
       rcases (show j = 1 ∨ j = 2 by omega) with rfl | rfl <;> exact ⟨by omega, by omega⟩)
    | (have h3 : j < 4 := h2
       rcases (show j = 1 ∨ j = 2 ∨ j = 3 by omega) with rfl | rfl | rfl <;> exact ⟨by omega, by omega⟩)
theorem decode_end (s : ByteArray) (pos : Nat) (h : pos < s.size) : pos + (Utf8.decode s pos).2 ≤ s.size := by
  by_cases hw : (Utf8.decode s pos).2 ≤ 1
  · omega
  · have := decode_cont s pos ((Utf8.decode s pos).2 - 1) (by omega) (by omega)
    omega
def isBl (x : Int) : Bool := x == 32 || x == 9
/-- The words of bytes; cur: the word that is under way. -/
def wB : List Int → List Int → List (List Int)
  | [], cur => if cur = [] then [] else [cur]
  | x :: l, cur => if isBl x = true then (if cur = [] then wB l [] else cur :: wB l []) else wB l (cur ++ [x])
theorem wB_end (cur : List Int) (h : ¬ cur = []) : wB [] cur = [cur] := by
  unfold wB
  rw [if_neg h]
theorem wB_run : ∀ (r l cur : List Int), (∀ x ∈ r, isBl x = false) → wB (r ++ l) cur = wB l (cur ++ r)
  | [], l, cur, _ => by rw [List.nil_append, List.append_nil]
  | x :: r, l, cur, h => by
    rw [List.cons_append]
    conv => lhs; unfold wB
    rw [if_neg (by rw [h x List.mem_cons_self]; decide), wB_run r l _ (fun y hy => h y (List.mem_cons_of_mem _ hy)), List.append_assoc, List.singleton_append]
theorem extract_bytes (s : ByteArray) (a b : Nat) (h : a ≤ b) (hb : b ≤ s.size) : s.extract a b = strOfNums (((bytesOf s).drop a).take (b - a)) := by
  apply ByteArray.ext
  apply Array.ext'
  unfold strOfNums bytesOf
  rw [ByteArray.data_extract, Array.toList_extract, List.extract_eq_take_drop, ← List.map_drop, ← List.map_take, List.map_map]
  conv => lhs; rw [← List.map_id (List.take (b - a) (List.drop a s.data.toList))]
  apply List.map_congr_left
  intro x _
  simp
def curB (s : ByteArray) (st : Option Nat) (pos : Nat) : List Int :=
  match st with
  | none => []
  | some a => ((bytesOf s).drop a).take (pos - a)
theorem bl_high (x : Int) (h : 128 ≤ x) : isBl x = false := by
  unfold isBl
  have h1 : (x == 32) = false := beq_eq_false_iff_ne.mpr (by omega)
  have h2 : (x == 9) = false := beq_eq_false_iff_ne.mpr (by omega)
  rw [h1, h2]; rfl
theorem bl_nat (n : Nat) : isBl (n : Int) = blankN n := by
  unfold isBl blankN
  rw [Bool.eq_iff_iff]
  simp
  omega
theorem at_bytes (s : ByteArray) (j : Nat) (h : j < s.size) : (bytesOf s)[j]? = some (bt s j) := bytesOf_getElem s j h
theorem cur_more (s : ByteArray) (a pos wd : Nat) (h : a ≤ pos) : ((bytesOf s).drop a).take (pos + wd - a) = ((bytesOf s).drop a).take (pos - a) ++ ((bytesOf s).drop pos).take wd := by
  rw [show pos + wd - a = (pos - a) + wd from by omega, List.take_add, List.drop_drop, show a + (pos - a) = pos from by omega]
theorem spans_wB (s : ByteArray) : ∀ (f pos : Nat) (st : Option Nat) (acc : List (Nat × Nat)), s.size ≤ pos + f → pos ≤ s.size → (∀ a, st = some a → a < pos) →
    (Lib.closeSpans s (Lib.spansFromP blankN s f pos st acc)).map (fun x => s.extract x.1 x.2) = acc.map (fun x => s.extract x.1 x.2) ++ (wB ((bytesOf s).drop pos) (curB s st pos)).map strOfNums := by
  intro f
  induction f with
  | zero =>
    intro pos st acc hf hp hst
    obtain rfl : pos = s.size := by omega
    rw [List.drop_of_length_le (by rw [bytesOf_length]; omega)]
    cases st with
    | none => simp [Lib.spansFromP, Lib.closeSpans, curB, wB]
    | some a =>
      have ha := hst a rfl
      have hne : ¬ (curB s (some a) s.size = []) := by
        intro h
        have := congrArg List.length h
        unfold curB at this
        rw [List.length_take, List.length_drop, bytesOf_length, List.length_nil] at this
        omega
      rw [wB_end _ hne]
      simp only [Lib.spansFromP, Lib.closeSpans, List.map_append, List.map_cons, List.map_nil]
      rw [extract_bytes s a s.size (by omega) (Nat.le_refl _)]
      rfl
  | succ f ih =>
    intro pos st acc hf hp hst
    by_cases hlt : pos < s.size
    case neg =>
      have h0 : Lib.spansFromP blankN s (f + 1) pos st acc = (acc, st) := Lib.spansFromP_end blankN s (f + 1) pos st acc hlt
      have h1 : Lib.spansFromP blankN s f pos st acc = (acc, st) := Lib.spansFromP_end blankN s f pos st acc hlt
      rw [h0, ← h1]
      exact ih pos st acc (by omega) hp hst
    have hwd := Lib.decode_width_pos s pos hlt
    have hend := decode_end s pos hlt
    have hbt : bt s pos = ((s[pos]'hlt).toNat : Int) := bt_get s pos hlt
    cases hbl : blankN (Utf8.decode s pos).1 with
    | true =>
      have hlow : (s[pos]'hlt).toNat < 128 := by
        by_cases h : (s[pos]'hlt).toNat < 128
        · exact h
        · have := (decode_high s pos hlt (by omega)).1
          unfold blankN at hbl
          simp at hbl
          omega
      have hd := decode_ascii s pos hlt hlow
      have hx : isBl (bt s pos) = true := by rw [hbt, bl_nat, ← hbl, hd]
      have hw1 : (Utf8.decode s pos).2 = 1 := by rw [hd]
      rw [bytesOf_drop s pos hlt]
      have hwB : ∀ cur, wB (bt s pos :: (bytesOf s).drop (pos + 1)) cur = if cur = [] then wB ((bytesOf s).drop (pos + 1)) [] else cur :: wB ((bytesOf s).drop (pos + 1)) [] := by
        intro cur
        conv => lhs; unfold wB
        rw [if_pos hx]
      rw [hwB]
      cases st with
      | none =>
        have he : Lib.spansFromP blankN s (f + 1) pos none acc = Lib.spansFromP blankN s f (pos + 1) none acc := by
          conv => lhs; unfold Lib.spansFromP
          rw [if_pos hlt, if_pos hbl, hw1]
        rw [he, ih (pos + 1) none acc (by omega) (by omega) (fun a h => by cases h)]
        rfl
      | some a =>
        have ha := hst a rfl
        have he : Lib.spansFromP blankN s (f + 1) pos (some a) acc = Lib.spansFromP blankN s f (pos + 1) none (acc ++ [(a, pos)]) := by
          conv => lhs; unfold Lib.spansFromP
          rw [if_pos hlt, if_pos hbl, hw1]
        have hne : ¬ (curB s (some a) pos = []) := by
          intro h
          have := congrArg List.length h
          unfold curB at this
          rw [List.length_take, List.length_drop, bytesOf_length, List.length_nil] at this
          omega
        rw [he, ih (pos + 1) none _ (by omega) (by omega) (fun a h => by cases h), if_neg hne, List.map_append, List.append_assoc]
        simp only [List.map_cons, List.map_nil, List.singleton_append]
        rw [extract_bytes s a pos (by omega) (by omega)]
        rfl
    | false =>
      have hrun : ∀ x ∈ ((bytesOf s).drop pos).take (Utf8.decode s pos).2, isBl x = false := by
        intro x hx
        obtain ⟨j, hj⟩ := List.mem_iff_getElem?.mp hx
        rw [List.getElem?_take] at hj
        split at hj
        case isFalse => cases hj
        rename_i hjw
        rw [List.getElem?_drop] at hj
        by_cases hlow : (s[pos]'hlt).toNat < 128
        · have hd := decode_ascii s pos hlt hlow
          have hw1 : (Utf8.decode s pos).2 = 1 := by rw [hd]
          obtain rfl : j = 0 := by omega
          rw [Nat.add_zero, at_bytes s pos hlt] at hj
          rw [← Option.some.inj hj, hbt, bl_nat]
          rw [hd] at hbl
          exact hbl
        · have hjs : pos + j < s.size := by omega
          rw [at_bytes s (pos + j) hjs] at hj
          rw [← Option.some.inj hj]
          refine bl_high _ ?_
          by_cases hj0 : j = 0
          · subst hj0
            rw [Nat.add_zero, hbt]
            omega
          · have hc := (decode_cont s pos j (by omega) hjw).2
            rw [bt_bang s (pos + j) hjs]
            omega
      have hsplit : (bytesOf s).drop pos = ((bytesOf s).drop pos).take (Utf8.decode s pos).2 ++ (bytesOf s).drop (pos + (Utf8.decode s pos).2) := by
        rw [← List.drop_drop, List.take_append_drop]
      rw [hsplit, wB_run _ _ _ hrun]
      have hbn : ¬ (blankN (Utf8.decode s pos).1 = true) := by rw [hbl]; decide
      cases st with
      | none =>
        have he : Lib.spansFromP blankN s (f + 1) pos none acc = Lib.spansFromP blankN s f (pos + (Utf8.decode s pos).2) (some pos) acc := by
          conv => lhs; unfold Lib.spansFromP
          rw [if_pos hlt, if_neg hbn]
        rw [he, ih _ (some pos) acc (by omega) hend (fun a h => by cases h; omega)]
        unfold curB
        simp only [List.nil_append]
        rw [show pos + (Utf8.decode s pos).2 - pos = (Utf8.decode s pos).2 from by omega]
      | some a =>
        have ha := hst a rfl
        have he : Lib.spansFromP blankN s (f + 1) pos (some a) acc = Lib.spansFromP blankN s f (pos + (Utf8.decode s pos).2) (some a) acc := by
          conv => lhs; unfold Lib.spansFromP
          rw [if_pos hlt, if_neg hbn]
        rw [he, ih _ (some a) acc (by omega) hend (fun b h => by cases h; omega)]
        unfold curB
        simp only
        rw [cur_more s a pos _ (by omega)]
theorem words_bytes (p : ByteArray) : wordsOf p = (wB (bytesOf p) []).map strOfNums := by
  have h := spans_wB p p.size 0 none [] (by omega) (Nat.zero_le _) (fun a h => by cases h)
  rw [List.drop_zero] at h
  exact h
/-! ### the document's words -/
theorem bytes_one (s : ByteArray) (i : Nat) (h : i < s.size) : bytesOf (s.extract i (i + 1)) = [bt s i] := by
  rw [extract_one s i h]
  refine bytesOf_strOf _ (fun x hx => ?_)
  rw [List.mem_singleton.1 hx]
  exact bt_range s i
theorem empty_iff (own : ByteArray) : own.toList = ([] : List UInt8) ↔ bytesOf own = [] := by
  rw [toList_eq]
  unfold bytesOf
  simp
theorem refWords_loop (s : ByteArray) (hs : s.size ≤ 1000) (d : Nat) : ∀ (i : Nat) (out : List ByteArray) (own : ByteArray), i + d = s.size → out.length ≤ i → own.size ≤ i →
    Ev (fun k => abatisref15_Words.l0 k s out own (i : Int)) (out ++ (wB ((bytesOf s).drop i) (bytesOf own)).map strOfNums) := by
  induction d with
  | zero =>
    intro i out own hi ho hw
    obtain rfl : i = s.size := by omega
    have e : wrap64 ((s.size : Int) + 1) = ((s.size + 1 : Nat) : Int) := by unfold wrap64; omega
    rw [List.drop_of_length_le (by rw [bytesOf_length]; omega)]
    have hend : ∀ r : List ByteArray, Ev (fun k => abatisref15_Words.l0 k s r (⟨#[]⟩ : ByteArray) ((s.size + 1 : Nat) : Int)) r := fun r =>
      Ev.step (fun k => abatisref15_Words.l0.eq_2 ..) (ev_neg (by omega) (ev_now rfl))
    refine Ev.step (fun k => abatisref15_Words.l0.eq_2 ..) (ev_pos (by omega) (ev_neg (by omega) (Ev.step (fun k => abatisref15_Words.j1.eq_2 ..) (ev_neg (by decide) ?_))))
    rw [e]
    unfold wB
    by_cases hemp : own.toList = ([] : List UInt8)
    · rw [if_pos ((empty_iff own).1 hemp)]
      rw [List.map_nil, List.append_nil]
      exact ev_pos hemp (hend out)
    · rw [if_neg (fun h => hemp ((empty_iff own).2 h))]
      rw [List.map_cons, List.map_nil, strOf_bytesOf]
      exact ev_neg hemp (ev_pos (by omega) (hend _))
  | succ d ih =>
    intro i out own hi ho hw
    have hlt : i < s.size := by omega
    have e : wrap64 ((i : Int) + 1) = ((i + 1 : Nat) : Int) := by unfold wrap64; omega
    have hz : (s.extract i (i + 1)).size = 1 := by rw [ByteArray.size_extract]; omega
    rw [bytesOf_drop s i hlt]
    have blank : isBl (bt s i) = true → Ev (fun k => abatisref15_Words.j1 k s out own (i : Int) false) (out ++ (wB (bt s i :: (bytesOf s).drop (i + 1)) (bytesOf own)).map strOfNums) := by
      intro hb
      refine Ev.step (fun k => abatisref15_Words.j1.eq_2 ..) (ev_neg (by decide) ?_)
      rw [e]
      conv => arg 2; unfold wB
      rw [if_pos hb]
      by_cases hemp : own.toList = ([] : List UInt8)
      · rw [if_pos ((empty_iff own).1 hemp)]
        exact ev_pos hemp (ih (i + 1) out _ (by omega) (by omega) (Nat.zero_le _))
      · rw [if_neg (fun h => hemp ((empty_iff own).2 h))]
        have hn := ih (i + 1) (out ++ [own]) (⟨#[]⟩ : ByteArray) (by omega) (by rw [List.length_append, List.length_cons, List.length_nil]; omega) (Nat.zero_le _)
        rw [List.append_assoc] at hn
        rw [List.map_cons, strOf_bytesOf]
        exact ev_neg hemp (ev_pos (by omega) hn)
    refine Ev.step (fun k => abatisref15_Words.l0.eq_2 ..) (ev_pos (by omega) (ev_pos (by omega) (ev_pos (by omega) ?_)))
    by_cases h32 : bt s i = 32
    · exact ev_pos h32 (blank (by rw [h32]; rfl))
    · refine ev_neg h32 ?_
      by_cases h9 : bt s i = 9
      · have hbn : (bt s i != 9) = false := by rw [h9]; rfl
        rw [hbn]
        exact blank (by rw [h9]; rfl)
      · have hbn : (bt s i != 9) = true := bne_iff_ne.mpr h9
        have hnb : isBl (bt s i) = false := by
          unfold isBl
          rw [beq_eq_false_iff_ne.mpr h32, beq_eq_false_iff_ne.mpr h9]; rfl
        rw [hbn]
        have hn := ih (i + 1) out (own ++ s.extract i (i + 1)) (by omega) (by omega) (by rw [ByteArray.size_append]; omega)
        rw [bytesOf_append, bytes_one s i hlt] at hn
        conv => arg 2; unfold wB
        rw [if_neg (by rw [hnb]; decide)]
        refine Ev.step (fun k => abatisref15_Words.j1.eq_2 ..) (ev_pos rfl ?_)
        rw [e, Int.toNat_natCast, Int.toNat_natCast]
        exact ev_pos (by omega) (ev_pos (by omega) (ev_pos (by omega) (ev_pos (by omega) hn)))
theorem refWords_ev (s : ByteArray) (hs : s.size ≤ 1000) : Ev (fun k => abatisref15_Words.f k s) (wordsOf s) := by
  have h := refWords_loop s hs s.size 0 [] (⟨#[]⟩ : ByteArray) (by omega) (by simp) (Nat.zero_le _)
  rw [List.drop_zero, List.nil_append] at h
  rw [words_bytes]
  exact h
end Go.Proofs.YthjhbhgfckaklaaDoor.P
