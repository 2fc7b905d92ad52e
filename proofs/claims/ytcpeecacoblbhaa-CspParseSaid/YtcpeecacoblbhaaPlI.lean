/-
  Plain laws on a text's pieces, its directives; CspTwice.
-/
import Derived.Test.YtcpeecacoblbhaaPlB
import Derived.Test.YtcpeecacoblbhaaCspP
import Derived.Test.YtcpeecacoblbhaaPCA1
import Derived.Test.YtcpeecacoblbhaaPCA2
namespace Go.Proofs.Ytcpeecacoblbhaa.P
open Go.RowKit Go.Proofs.YtcpeecacoblbhaaW.PrintWords Go.Proofs.YtcpeecacoblbhaaW.PrintLast Go.Proofs.YtcpeecacoblbhaaW.PrintMore
set_option linter.unusedVariables false
set_option linter.unusedSimpArgs false

/-! ### pieces -/
/-- The first piece, and the others. -/
def splitB (c : Int) : List Int → List Int × List (List Int)
  | [] => ([], [])
  | x :: l => if x = c then ([], (splitB c l).1 :: (splitB c l).2) else (x :: (splitB c l).1, (splitB c l).2)
def pieces (s : ByteArray) (c : Int) : List ByteArray := strOfNums (splitB c (bytesOf s)).1 :: (splitB c (bytesOf s)).2.map strOfNums
theorem strOf_append (a b : List Int) : strOfNums (a ++ b) = strOfNums a ++ strOfNums b := by
  apply ByteArray.ext
  apply Array.ext'
  unfold strOfNums
  simp
theorem splitB_append (c : Int) : ∀ (a b : List Int), splitB c (a ++ c :: b) = ((splitB c a).1, (splitB c a).2 ++ (splitB c b).1 :: (splitB c b).2)
  | [], b => by simp [splitB]
  | x :: a, b => by
    have e1 : ∀ l, splitB c (x :: l) = if x = c then ([], (splitB c l).1 :: (splitB c l).2) else (x :: (splitB c l).1, (splitB c l).2) := fun l => rfl
    rw [List.cons_append, e1, e1, splitB_append c a b]
    split <;> simp
theorem pieces_append (a b sep : ByteArray) (c : Int) (h : bytesOf sep = [c]) : pieces (a ++ sep ++ b) c = pieces a c ++ pieces b c := by
  unfold pieces
  rw [bytesOf_append, bytesOf_append, h, List.append_assoc, List.singleton_append, splitB_append]
  simp
theorem splitB_small (c : Int) : ∀ (l : List Int), (splitB c l).1.length ≤ l.length ∧ (∀ p ∈ (splitB c l).2, p.length ≤ l.length) ∧ (splitB c l).2.length ≤ l.length
  | [] => by simp [splitB]
  | x :: l => by
    have ih := splitB_small c l
    unfold splitB
    split
    · refine ⟨by simp, fun p hp => ?_, ?_⟩
      · rw [List.length_cons]
        rcases List.mem_cons.1 hp with rfl | hp
        · have := ih.1; omega
        · have := ih.2.1 p hp; omega
      · rw [List.length_cons, List.length_cons]; have := ih.2.2; omega
    · refine ⟨?_, fun p hp => ?_, ?_⟩
      · rw [List.length_cons, List.length_cons]; have := ih.1; omega
      · rw [List.length_cons]; have := ih.2.1 p hp; omega
      · rw [List.length_cons]; have := ih.2.2; show (splitB c l).2.length ≤ _; omega
theorem pieces_size (s : ByteArray) (c : Int) : ∀ p ∈ pieces s c, p.size ≤ s.size := by
  have h := splitB_small c (bytesOf s)
  rw [bytesOf_length] at h
  intro p hp
  unfold pieces at hp
  rcases List.mem_cons.1 hp with rfl | hp
  · rw [size_strOf]; exact h.1
  · simp only [List.mem_map] at hp
    obtain ⟨q, hq, rfl⟩ := hp
    rw [size_strOf]; exact h.2.1 q hq
theorem pieces_length (s : ByteArray) (c : Int) : (pieces s c).length ≤ s.size + 1 := by
  have h := splitB_small c (bytesOf s)
  rw [bytesOf_length] at h
  unfold pieces
  rw [List.length_cons, List.length_map]
  omega

theorem extract_one (s : ByteArray) (i : Nat) (h : i < s.size) : s.extract i (i + 1) = strOfNums [bt s i] := by
  rw [bt_get s i h]
  apply ByteArray.ext
  apply Array.ext'
  unfold strOfNums
  simp only [ByteArray.data_extract, Array.toList_extract, List.map_cons, List.map_nil, Int.toNat_natCast]
  have hl : i < s.data.toList.length := by rw [data_length]; exact h
  have : s.data.toList[i] = s[i]'h := by rw [Array.getElem_toList]; rfl
  simp [List.extract_eq_take_drop, List.drop_eq_getElem_cons hl, this]
theorem set_last (l : List ByteArray) (a b : ByteArray) : (l ++ [a]).set l.length b = l ++ [b] := by
  induction l with
  | nil => rfl
  | cons x l ih => simp [ih]
theorem rdOf_last (l : List ByteArray) (a : ByteArray) (j : Int) (hj : j = (l.length : Int)) : rdOf ByteArray.empty (l ++ [a]) j = a := by
  subst hj
  unfold rdOf
  rw [Int.toNat_natCast]
  simp
theorem empty_append' (a : ByteArray) : (⟨#[]⟩ : ByteArray) ++ a = a := by apply ByteArray.ext; simp
theorem append_empty' (a : ByteArray) : a ++ (⟨#[]⟩ : ByteArray) = a := by apply ByteArray.ext; simp
theorem extract_none (s : ByteArray) (i : Nat) : s.extract i i = (⟨#[]⟩ : ByteArray) := by
  apply ByteArray.ext
  apply Array.eq_empty_of_size_eq_zero
  simp
theorem Split_loop (s : ByteArray) (c : Int) (hs : s.size ≤ 1000) (d : Nat) : ∀ (i : Nat) (out : List ByteArray) (cur : ByteArray), i + d = s.size → out.length ≤ i → cur.size ≤ i →
    Ev (fun k => text_Split.l0 k s c (out ++ [cur]) (s.size : Int) (i : Int)) (out ++ (cur ++ strOfNums (splitB c ((bytesOf s).drop i)).1) :: (splitB c ((bytesOf s).drop i)).2.map strOfNums) := by
  induction d with
  | zero =>
    intro i out cur hi ho hc
    rw [List.drop_of_length_le (by rw [bytesOf_length]; omega)]
    refine Ev.step (fun k => text_Split.l0.eq_2 ..) (ev_neg (by omega) (ev_now ?_))
    show out ++ [cur] = out ++ [cur ++ (⟨#[]⟩ : ByteArray)]
    rw [append_empty']
  | succ d ih =>
    intro i out cur hi ho hcs
    have hlt : i < s.size := by omega
    have e : wrap64 ((i : Int) + 1) = ((i + 1 : Nat) : Int) := by unfold wrap64; omega
    rw [bytesOf_drop s i hlt]
    unfold splitB
    by_cases hc : bt s i = c
    · rw [if_pos hc]
      have h2 := ih (i + 1) (out ++ [cur]) (⟨#[]⟩ : ByteArray) (by omega) (by rw [List.length_append, List.length_cons, List.length_nil]; omega) (Nat.zero_le _)
      refine Ev.step (fun k => text_Split.l0.eq_2 ..) (ev_pos (by omega) (ev_pos (by omega) (ev_pos (by omega) (ev_pos hc (ev_pos ?_ ?_)))))
      · rw [List.length_append, List.length_cons, List.length_nil]; omega
      · rw [e]
        rw [empty_append', List.append_assoc out [cur] (strOfNums (splitB c ((bytesOf s).drop (i + 1))).1 :: (splitB c ((bytesOf s).drop (i + 1))).2.map strOfNums)] at h2
        rw [List.map_cons]
        show Ev _ (out ++ (cur ++ (⟨#[]⟩ : ByteArray)) :: _)
        rw [append_empty']
        exact h2
    · rw [if_neg hc]
      have hz2 : (s.extract i (i + 1)).size = 1 := by rw [ByteArray.size_extract]; omega
      have h2 := ih (i + 1) out (cur ++ s.extract i (i + 1)) (by omega) (by omega) (by rw [ByteArray.size_append]; omega)
      have hl : (((out ++ [cur]).length : Nat) : Int) = (out.length : Int) + 1 := by rw [List.length_append, List.length_cons, List.length_nil]; omega
      have hw : wrap64 (((out ++ [cur]).length : Int) - 1) = (out.length : Int) := by rw [hl]; unfold wrap64; omega
      refine Ev.step (fun k => text_Split.l0.eq_2 ..) (ev_pos (by omega) (ev_pos (by omega) (ev_pos (by omega) (ev_neg hc ?_))))
      rw [hw, e, rdOf_last _ _ _ rfl, Int.toNat_natCast, Int.toNat_natCast, Int.toNat_natCast, set_last]
      rw [ByteArray.append_assoc, extract_one s i hlt, ← strOf_append, List.singleton_append] at h2
      rw [extract_one s i hlt] at hz2 ⊢
      exact ev_pos (by omega) (ev_pos (by omega) (ev_pos (by omega) (ev_pos (by omega) (ev_pos (by omega) h2))))
theorem Split_ev (s : ByteArray) (c : Int) (hs : s.size ≤ 1000) : Ev (fun k => text_Split.f k s c) (pieces s c) := by
  have h := Split_loop s c hs s.size 0 [] (⟨#[]⟩ : ByteArray) (by omega) (by simp) (Nat.zero_le _)
  rw [List.drop_zero, empty_append'] at h
  exact h
theorem refSplit_loop (s : ByteArray) (c : Int) (hs : s.size ≤ 1000) (d : Nat) : ∀ (i p : Nat) (out : List ByteArray), i + d = s.size → p ≤ i → out.length ≤ i →
    Ev (fun k => abatisref01_Split.l0 k s c out (p : Int) (i : Int)) (out ++ (s.extract p i ++ strOfNums (splitB c ((bytesOf s).drop i)).1) :: (splitB c ((bytesOf s).drop i)).2.map strOfNums) := by
  induction d with
  | zero =>
    intro i p out hi hp ho
    obtain rfl : i = s.size := by omega
    rw [List.drop_of_length_le (by rw [bytesOf_length]; omega)]
    refine Ev.step (fun k => abatisref01_Split.l0.eq_2 ..) (ev_neg (by omega) (ev_pos (by omega) (ev_pos (by omega) (ev_pos (by omega) (ev_now ?_)))))
    show out ++ [s.extract p s.size] = out ++ [s.extract p s.size ++ (⟨#[]⟩ : ByteArray)]
    rw [append_empty']
  | succ d ih =>
    intro i p out hi hp ho
    have hlt : i < s.size := by omega
    have e : wrap64 ((i : Int) + 1) = ((i + 1 : Nat) : Int) := by unfold wrap64; omega
    rw [bytesOf_drop s i hlt]
    unfold splitB
    by_cases hc : bt s i = c
    · rw [if_pos hc]
      have h1 := ih (i + 1) (i + 1) (out ++ [s.extract p i]) (by omega) (by omega) (by rw [List.length_append, List.length_cons, List.length_nil]; omega)
      refine Ev.step (fun k => abatisref01_Split.l0.eq_2 ..) (ev_pos (by omega) (ev_pos (by omega) (ev_pos hc (ev_pos (by omega) (ev_pos (by omega) (ev_pos (by omega) (ev_pos (by omega) ?_)))))))
      rw [e, Int.toNat_natCast, Int.toNat_natCast]
      rw [extract_none, empty_append', List.append_assoc out [s.extract p i] (strOfNums (splitB c ((bytesOf s).drop (i + 1))).1 :: (splitB c ((bytesOf s).drop (i + 1))).2.map strOfNums)] at h1
      rw [List.map_cons]
      show Ev _ (out ++ (s.extract p i ++ (⟨#[]⟩ : ByteArray)) :: _)
      rw [append_empty']
      exact h1
    · rw [if_neg hc]
      have h1 := ih (i + 1) p out (by omega) (by omega) (by omega)
      refine Ev.step (fun k => abatisref01_Split.l0.eq_2 ..) (ev_pos (by omega) (ev_pos (by omega) (ev_neg hc ?_)))
      rw [e]
      rw [ByteArray.extract_eq_extract_append_extract i (by omega) (by omega), ByteArray.append_assoc, extract_one s i hlt, ← strOf_append, List.singleton_append] at h1
      exact h1
theorem refSplit_ev (s : ByteArray) (c : Int) (hs : s.size ≤ 1000) : Ev (fun k => abatisref01_Split.f k s c) (pieces s c) := by
  have h := refSplit_loop s c hs s.size 0 0 [] (by omega) (by omega) (by simp)
  rw [List.drop_zero, extract_none, empty_append'] at h
  exact h

/-! ### words -/
def wordsOf (p : ByteArray) : List ByteArray := Lib.goFieldsP blankN p
theorem words_size (p : ByteArray) : ∀ x ∈ wordsOf p, x.size ≤ p.size := by
  intro x hx
  unfold wordsOf Lib.goFieldsP at hx
  simp only [List.mem_map] at hx
  obtain ⟨y, _, rfl⟩ := hx
  rw [ByteArray.size_extract]
  omega
theorem spans_length (p : Nat → Bool) (s : ByteArray) : ∀ (f pos : Nat) (st : Option Nat) (acc : List (Nat × Nat)), (Lib.spansFromP p s f pos st acc).1.length ≤ acc.length + f
  | 0, pos, st, acc => by simp [Lib.spansFromP]
  | f + 1, pos, st, acc => by
    unfold Lib.spansFromP
    split
    · split
      · cases st with
        | none => have := spans_length p s f (pos + (Utf8.decode s pos).2) none acc; simp only; omega
        | some a =>
          have := spans_length p s f (pos + (Utf8.decode s pos).2) none (acc ++ [(a, pos)])
          rw [List.length_append, List.length_cons, List.length_nil] at this
          simp only
          omega
      · cases st with
        | none => have := spans_length p s f (pos + (Utf8.decode s pos).2) (some pos) acc; simp only; omega
        | some a => have := spans_length p s f (pos + (Utf8.decode s pos).2) (some a) acc; simp only; omega
    · simp
theorem words_length (p : ByteArray) : (wordsOf p).length ≤ p.size + 1 := by
  unfold wordsOf Lib.goFieldsP Lib.spansOfP Lib.closeSpans
  have := spans_length blankN p p.size 0 none []
  rw [List.length_map]
  rw [List.length_nil] at this
  split
  · rw [List.length_append, List.length_cons, List.length_nil]; omega
  · omega
theorem Words_eq (p : ByteArray) (h : p.size ≤ 1000) : csp_Words.f p = some (wordsOf p) := by
  unfold csp_Words.f
  rw [if_pos (by omega)]
  rfl

/-! ### directives -/
def dNames (out : List S56) : List ByteArray := out.map S56.f0
def pStep (out : List S56) (p : ByteArray) : List S56 :=
  match wordsOf p with
  | [] => out
  | h :: t => if memB (lowS h) (dNames out) = true then out else out ++ [⟨lowS h, t⟩]
def parseB (s : ByteArray) : List S56 := (pieces s 59).foldl pStep []
theorem rdOf_at (l : List ByteArray) (i : Nat) (h : i < l.length) : rdOf ByteArray.empty l (i : Int) = l[i] := by
  unfold rdOf
  rw [Int.toNat_natCast, List.getD_eq_getElem?_getD, List.getElem?_eq_getElem h]
  rfl
theorem pStep_more (out : List S56) (p : ByteArray) : ∃ t, pStep out p = out ++ t ∧ t.length ≤ 1 := by
  unfold pStep
  split
  · exact ⟨[], by simp, by simp⟩
  · split
    · exact ⟨[], by simp, by simp⟩
    · exact ⟨_, rfl, by simp⟩
theorem parse_loop (P : List ByteArray) (hP : ∀ p ∈ P, p.size ≤ 1000) (hl : P.length ≤ 10000) (d : Nat) : ∀ (i : Nat) (out : List S56), i + d = P.length → out.length ≤ i →
    Ev (fun k => csp_Parse.l0 k out P (P.length : Int) (i : Int)) ((P.drop i).foldl pStep out) := by
  induction d with
  | zero =>
    intro i out hi ho
    rw [List.drop_of_length_le (by omega)]
    exact Ev.step (fun k => csp_Parse.l0.eq_2 ..) (ev_neg (by omega) (ev_now rfl))
  | succ d ih =>
    intro i out hi ho
    have hlt : i < P.length := by omega
    have e : wrap64 ((i : Int) + 1) = ((i + 1 : Nat) : Int) := by unfold wrap64; omega
    have hps := hP P[i] (List.getElem_mem hlt)
    have hws := words_size P[i]
    rw [List.drop_eq_getElem_cons hlt, List.foldl_cons]
    refine Ev.step (fun k => csp_Parse.l0.eq_2 ..) (ev_pos (by omega) (ev_pos (by omega) (ev_pos (by omega) ?_)))
    rw [rdOf_at P i hlt, e]
    refine ev_get (Words_eq _ hps) ?_
    cases hw : wordsOf P[i] with
    | nil =>
      have hst : pStep out P[i] = out := by unfold pStep; rw [hw]
      rw [hst]
      exact ev_pos rfl (ih (i + 1) out (by omega) (by omega))
    | cons h t =>
      have hh : h.size ≤ 1000 := Nat.le_trans (hws h (by rw [hw]; exact List.mem_cons_self)) hps
      have hr : rdOf ByteArray.empty (h :: t) 0 = h := rfl
      have hsz : (lowS h).size ≤ 1000000 ∧ out.length ≤ 1000000 := by rw [size_lowS]; omega
      have hf : csp_Parse_1.f out (lowS h) = some (memB (lowS h) (dNames out)) := by
        unfold csp_Parse_1.f
        rw [if_pos hsz]
        rfl
      refine ev_neg (by rw [List.length_cons]; omega) (ev_pos (by rw [List.length_cons]; omega) ?_)
      rw [hr]
      refine ev_get (Lower_eq h hh) (ev_get hf ?_)
      by_cases hm : memB (lowS h) (dNames out) = true
      · have hst : pStep out P[i] = out := by unfold pStep; rw [hw]; exact if_pos hm
        rw [hst]
        exact ev_pos hm (ih (i + 1) out (by omega) (by omega))
      · have hst : pStep out P[i] = out ++ [⟨lowS h, t⟩] := by unfold pStep; rw [hw]; exact if_neg hm
        rw [hst]
        refine ev_neg hm (ev_get (Lower_eq h hh) (ev_pos (by rw [List.length_cons]; omega) (ev_pos (by omega) ?_)))
        exact ih (i + 1) (out ++ [⟨lowS h, t⟩]) (by omega) (by rw [List.length_append, List.length_cons, List.length_nil]; omega)
theorem Parse_ev (s : ByteArray) (hs : s.size ≤ 1000) : Ev (fun k => csp_Parse.f k s) (parseB s) := by
  unfold csp_Parse.f
  refine Ev.bind (Split_ev s 59 hs) ?_
  have hl := pieces_length s 59
  exact parse_loop (pieces s 59) (fun p hp => Nat.le_trans (pieces_size s 59 p hp) hs) (by omega) (pieces s 59).length 0 [] (by omega) (by simp)

theorem fold_more (P : List ByteArray) : ∀ out : List S56, ∃ t, P.foldl pStep out = out ++ t ∧ t.length ≤ P.length := by
  induction P with
  | nil => intro out; exact ⟨[], by simp, by simp⟩
  | cons p P ih =>
    intro out
    obtain ⟨t, ht, hl⟩ := pStep_more out p
    obtain ⟨u, hu, hm⟩ := ih (pStep out p)
    refine ⟨t ++ u, ?_, ?_⟩
    · rw [List.foldl_cons, hu, ht, List.append_assoc]
    · rw [List.length_append, List.length_cons]; omega
/-- A piece whose directive is there already, if it has one. -/
def knownP (out : List S56) (p : ByteArray) : Prop := ∀ h t, wordsOf p = h :: t → memB (lowS h) (dNames out) = true
theorem known_step (out : List S56) (p : ByteArray) (hk : knownP out p) : pStep out p = out := by
  unfold pStep
  split
  · rfl
  · rename_i h t hw
    rw [if_pos (hk h t hw)]
theorem known_more (out t : List S56) (p : ByteArray) (hk : knownP out p) : knownP (out ++ t) p := by
  intro h u hw
  have := memB_iff.1 (hk h u hw)
  refine memB_iff.2 ?_
  unfold dNames at this ⊢
  rw [List.map_append]
  exact List.mem_append_left _ this
theorem known_now (out : List S56) (p : ByteArray) : knownP (pStep out p) p := by
  intro h t hw
  unfold pStep
  rw [hw]
  simp only
  by_cases hm : memB (lowS h) (dNames out) = true
  · rw [if_pos hm]; exact hm
  · rw [if_neg hm]
    refine memB_iff.2 ?_
    unfold dNames
    rw [List.map_append]
    exact List.mem_append_right _ (by simp)
theorem fold_known (P : List ByteArray) : ∀ out : List S56, ∀ p ∈ P, knownP (P.foldl pStep out) p := by
  induction P with
  | nil => intro out p hp; cases hp
  | cons q P ih =>
    intro out p hp
    rw [List.foldl_cons]
    rcases List.mem_cons.1 hp with rfl | hp
    · obtain ⟨t, ht, _⟩ := fold_more P (pStep out p)
      rw [ht]
      exact known_more _ _ _ (known_now out p)
    · exact ih _ p hp
theorem fold_same (P : List ByteArray) (out : List S56) (h : ∀ p ∈ P, knownP out p) : P.foldl pStep out = out := by
  induction P with
  | nil => rfl
  | cons q P ih =>
    rw [List.foldl_cons, known_step out q (h q List.mem_cons_self)]
    exact ih (fun p hp => h p (List.mem_cons_of_mem _ hp))
theorem fold_small (P : List ByteArray) (hP : ∀ p ∈ P, p.size ≤ 1000) : ∀ out : List S56, (∀ x ∈ out, x.f1.length ≤ 2000) → ∀ x ∈ P.foldl pStep out, x.f1.length ≤ 2000 := by
  induction P with
  | nil => intro out h; exact h
  | cons q P ih =>
    intro out h
    rw [List.foldl_cons]
    refine ih (fun p hp => hP p (List.mem_cons_of_mem _ hp)) _ (fun x hx => ?_)
    have hq := hP q List.mem_cons_self
    have hw := words_length q
    unfold pStep at hx
    split at hx
    · exact h x hx
    · rename_i a t he
      rw [he, List.length_cons] at hw
      split at hx
      · exact h x hx
      · rcases List.mem_append.1 hx with hx | hx
        · exact h x hx
        · rw [List.mem_singleton.1 hx]
          show t.length ≤ 2000
          omega
theorem parse_small (s : ByteArray) (hs : s.size ≤ 1000) : (parseB s).length ≤ 2000 ∧ ∀ x ∈ parseB s, x.f1.length ≤ 2000 := by
  have hl := pieces_length s 59
  obtain ⟨t, ht, hm⟩ := fold_more (pieces s 59) []
  refine ⟨?_, fold_small _ (fun p hp => Nat.le_trans (pieces_size s 59 p hp) hs) [] (fun x hx => by cases hx)⟩
  unfold parseB
  rw [ht, List.nil_append]
  omega

/-! ### the document's form of directives, and sameness -/
def asB (l : List S56) : List S57 := l.map fun x => ⟨x.f0, x.f1⟩
theorem take_snocD (l : List S56) (i : Nat) (h : i < l.length) : l.take (i + 1) = l.take i ++ [rd_T56 l (i : Int)] := by
  rw [List.take_add_one, List.getElem?_eq_getElem h]
  unfold rd_T56
  rw [Int.toNat_natCast, List.getD_eq_getElem?_getD, List.getElem?_eq_getElem h]
  rfl
theorem as_loop (l : List S56) (hl : l.length ≤ 100000) (d : Nat) : ∀ i : Nat, i + d = l.length → Ev (fun k => abatislaw15_as.l0 k l (asB (l.take i)) (i : Int)) (asB l) := by
  induction d with
  | zero =>
    intro i hi
    rw [List.take_of_length_le (by omega)]
    exact Ev.step (fun k => abatislaw15_as.l0.eq_2 ..) (ev_neg (by omega) (ev_now rfl))
  | succ d ih =>
    intro i hi
    have e : wrap64 ((i : Int) + 1) = ((i + 1 : Nat) : Int) := by unfold wrap64; omega
    have hn := ih (i + 1) (by omega)
    rw [take_snocD l i (by omega)] at hn
    have ha : (asB (l.take i)).length ≤ 100000 := by unfold asB; rw [List.length_map, List.length_take]; omega
    refine Ev.step (fun k => abatislaw15_as.l0.eq_2 ..) (ev_pos (by omega) (ev_pos (by omega) (ev_pos (by omega) ?_)))
    rw [e]
    unfold asB at hn ⊢
    rw [List.map_append] at hn
    exact hn
theorem as_ev (l : List S56) (hl : l.length ≤ 100000) : Ev (fun k => abatislaw15_as.f k l) (asB l) := as_loop l hl l.length 0 (by omega)
theorem same_loop (l : List ByteArray) (hl : l.length ≤ 100000) (d : Nat) : ∀ i : Nat, i + d = l.length → Ev (fun k => abatisref01_Same.l0 k l l (i : Int)) true := by
  induction d with
  | zero => intro i hi; exact Ev.step (fun k => abatisref01_Same.l0.eq_2 ..) (ev_neg (by omega) (ev_now rfl))
  | succ d ih =>
    intro i hi
    have e : wrap64 ((i : Int) + 1) = ((i + 1 : Nat) : Int) := by unfold wrap64; omega
    refine Ev.step (fun k => abatisref01_Same.l0.eq_2 ..) (ev_pos (by omega) (ev_pos (by omega) (ev_pos (by omega) (ev_pos rfl ?_))))
    rw [e]
    exact ih (i + 1) (by omega)
theorem same_ev (l : List ByteArray) (hl : l.length ≤ 100000) : Ev (fun k => abatisref01_Same.f k l l) true := by
  unfold abatisref01_Same.f
  exact ev_pos rfl (same_loop l hl l.length 0 (by omega))
theorem sameD_loop (l : List S57) (hl : l.length ≤ 100000) (hx : ∀ x ∈ l, x.f1.length ≤ 100000) (d : Nat) : ∀ i : Nat, i + d = l.length → Ev (fun k => abatisref15_Same.l0 k l l (i : Int)) true := by
  induction d with
  | zero => intro i hi; exact Ev.step (fun k => abatisref15_Same.l0.eq_2 ..) (ev_neg (by omega) (ev_now rfl))
  | succ d ih =>
    intro i hi
    have hlt : i < l.length := by omega
    have e : wrap64 ((i : Int) + 1) = ((i + 1 : Nat) : Int) := by unfold wrap64; omega
    have hr : rd_T57 l (i : Int) = l[i] := by
      unfold rd_T57
      rw [Int.toNat_natCast, List.getD_eq_getElem?_getD, List.getElem?_eq_getElem hlt]
      rfl
    refine Ev.step (fun k => abatisref15_Same.l0.eq_2 ..) (ev_pos (by omega) (ev_pos (by omega) (ev_pos (by omega) (ev_pos rfl ?_))))
    rw [e, hr]
    exact Ev.bind (same_ev _ (hx _ (List.getElem_mem hlt))) (ev_true (ih (i + 1) (by omega)))
theorem sameD_ev (l : List S57) (hl : l.length ≤ 100000) (hx : ∀ x ∈ l, x.f1.length ≤ 100000) : Ev (fun k => abatisref15_Same.f k l l) true := by
  unfold abatisref15_Same.f
  exact ev_pos rfl (sameD_loop l hl hx l.length 0 (by omega))
theorem sameAs_ev (l : List S56) (hl : l.length ≤ 100000) (hx : ∀ x ∈ l, x.f1.length ≤ 100000) : Ev (fun k => abatisref15_Same.f k (asB l) (asB l)) true := by
  refine sameD_ev (asB l) (by unfold asB; rw [List.length_map]; exact hl) (fun x hm => ?_)
  unfold asB at hm
  simp only [List.mem_map] at hm
  obtain ⟨y, hy, rfl⟩ := hm
  exact hx y hy
theorem lives15_ev : Ev (fun k => abatislaw15_lives.f k) true := Ev.of (fun k => abatislaw15_lives.mono k) (k := 60) (by decide +kernel)
end Go.Proofs.Ytcpeecacoblbhaa.P
