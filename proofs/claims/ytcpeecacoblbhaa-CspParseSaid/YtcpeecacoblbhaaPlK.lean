/-
  Plain laws on a text's words: what FieldsFunc gives sign by sign is what the document gives byte by byte.
-/
import Derived.Test.YtcpeecacoblbhaaPlI
import Derived.Test.YtcpeecacoblbhaaPA3
namespace Go.Proofs.Ytcpeecacoblbhaa.P
open Go.RowKit Go.Proofs.YtcpeecacoblbhaaW.PrintWords Go.Proofs.YtcpeecacoblbhaaW.PrintLast Go.Proofs.YtcpeecacoblbhaaW.PrintMore
set_option linter.unusedVariables false
set_option linter.unusedSimpArgs false

/-- All bytes of a sign behind its first one are great. -/
theorem decode_cont (s : ByteArray) (pos j : Nat) (h1 : 1 ≤ j) (h2 : j < (Utf8.decode s pos).2) : pos + j < s.size ∧ 128 ≤ (s.get! (pos + j)).toNat := by
  revert h2
  simp only [Utf8.decode]
  repeat' split
  all_goals intro h2
  all_goals simp only [Bool.and_eq_true, decide_eq_true_iff, beq_iff_eq] at *
  all_goals first
    | omega
    | (have h3 : j < 2 := h2
       have hj : j = 1 := by omega
       subst hj
       exact ⟨by omega, by omega⟩)
    | (have h3 : j < 3 := h2
       rcases (show j = 1 ∨ j = 2 by omega) with rfl | rfl <;> exact ⟨by omega, by omega⟩)
    | (have h3 : j < 4 := h2
       rcases (show j = 1 ∨ j = 2 ∨ j = 3 by omega) with rfl | rfl | rfl <;> exact ⟨by omega, by omega⟩)
theorem decode_end (s : ByteArray) (pos : Nat) (h : pos < s.size) : pos + (Utf8.decode s pos).2 ≤ s.size := by
  by_cases hw : (Utf8.decode s pos).2 ≤ 1
  · omega
  · have := decode_cont s pos ((Utf8.decode s pos).2 - 1) (by omega) (by omega)
    omega

def isBl (x : Int) : Bool := x == 32 || x == 9
/-- The words of bytes; cur: the word that is under way. -/
def wB : List Int → List Int → List (List Int)
  | [], cur => if cur = [] then [] else [cur]
  | x :: l, cur => if isBl x = true then (if cur = [] then wB l [] else cur :: wB l []) else wB l (cur ++ [x])
theorem wB_end (cur : List Int) (h : ¬ cur = []) : wB [] cur = [cur] := by
  unfold wB
  rw [if_neg h]
theorem wB_run : ∀ (r l cur : List Int), (∀ x ∈ r, isBl x = false) → wB (r ++ l) cur = wB l (cur ++ r)
  | [], l, cur, _ => by rw [List.nil_append, List.append_nil]
  | x :: r, l, cur, h => by
    rw [List.cons_append]
    conv => lhs; unfold wB
    rw [if_neg (by rw [h x List.mem_cons_self]; decide), wB_run r l _ (fun y hy => h y (List.mem_cons_of_mem _ hy)), List.append_assoc, List.singleton_append]
theorem extract_bytes (s : ByteArray) (a b : Nat) (h : a ≤ b) (hb : b ≤ s.size) : s.extract a b = strOfNums (((bytesOf s).drop a).take (b - a)) := by
  apply ByteArray.ext
  apply Array.ext'
  unfold strOfNums bytesOf
  rw [ByteArray.data_extract, Array.toList_extract, List.extract_eq_take_drop, ← List.map_drop, ← List.map_take, List.map_map]
  conv => lhs; rw [← List.map_id (List.take (b - a) (List.drop a s.data.toList))]
  apply List.map_congr_left
  intro x _
  simp
def curB (s : ByteArray) (st : Option Nat) (pos : Nat) : List Int :=
  match st with
  | none => []
  | some a => ((bytesOf s).drop a).take (pos - a)
theorem bl_high (x : Int) (h : 128 ≤ x) : isBl x = false := by
  unfold isBl
  have h1 : (x == 32) = false := beq_eq_false_iff_ne.mpr (by omega)
  have h2 : (x == 9) = false := beq_eq_false_iff_ne.mpr (by omega)
  rw [h1, h2]; rfl
theorem bl_nat (n : Nat) : isBl (n : Int) = blankN n := by
  unfold isBl blankN
  rw [Bool.eq_iff_iff]
  simp
  omega
theorem at_bytes (s : ByteArray) (j : Nat) (h : j < s.size) : (bytesOf s)[j]? = some (bt s j) := bytesOf_getElem s j h
theorem cur_more (s : ByteArray) (a pos wd : Nat) (h : a ≤ pos) : ((bytesOf s).drop a).take (pos + wd - a) = ((bytesOf s).drop a).take (pos - a) ++ ((bytesOf s).drop pos).take wd := by
  rw [show pos + wd - a = (pos - a) + wd from by omega, List.take_add, List.drop_drop, show a + (pos - a) = pos from by omega]
theorem spans_wB (s : ByteArray) : ∀ (f pos : Nat) (st : Option Nat) (acc : List (Nat × Nat)), s.size ≤ pos + f → pos ≤ s.size → (∀ a, st = some a → a < pos) →
    (Lib.closeSpans s (Lib.spansFromP blankN s f pos st acc)).map (fun x => s.extract x.1 x.2) = acc.map (fun x => s.extract x.1 x.2) ++ (wB ((bytesOf s).drop pos) (curB s st pos)).map strOfNums := by
  intro f
  induction f with
  | zero =>
    intro pos st acc hf hp hst
    obtain rfl : pos = s.size := by omega
    rw [List.drop_of_length_le (by rw [bytesOf_length]; omega)]
    cases st with
    | none => simp [Lib.spansFromP, Lib.closeSpans, curB, wB]
    | some a =>
      have ha := hst a rfl
      have hne : ¬ (curB s (some a) s.size = []) := by
        intro h
        have := congrArg List.length h
        unfold curB at this
        rw [List.length_take, List.length_drop, bytesOf_length, List.length_nil] at this
        omega
      rw [wB_end _ hne]
      simp only [Lib.spansFromP, Lib.closeSpans, List.map_append, List.map_cons, List.map_nil]
      rw [extract_bytes s a s.size (by omega) (Nat.le_refl _)]
      rfl
  | succ f ih =>
    intro pos st acc hf hp hst
    by_cases hlt : pos < s.size
    case neg =>
      have h0 : Lib.spansFromP blankN s (f + 1) pos st acc = (acc, st) := Lib.spansFromP_end blankN s (f + 1) pos st acc hlt
      have h1 : Lib.spansFromP blankN s f pos st acc = (acc, st) := Lib.spansFromP_end blankN s f pos st acc hlt
      rw [h0, ← h1]
      exact ih pos st acc (by omega) hp hst
    have hwd := Lib.decode_width_pos s pos hlt
    have hend := decode_end s pos hlt
    have hbt : bt s pos = ((s[pos]'hlt).toNat : Int) := bt_get s pos hlt
    cases hbl : blankN (Utf8.decode s pos).1 with
    | true =>
      have hlow : (s[pos]'hlt).toNat < 128 := by
        by_cases h : (s[pos]'hlt).toNat < 128
        · exact h
        · have := (decode_high s pos hlt (by omega)).1
          unfold blankN at hbl
          simp at hbl
          omega
      have hd := decode_ascii s pos hlt hlow
      have hx : isBl (bt s pos) = true := by rw [hbt, bl_nat, ← hbl, hd]
      have hw1 : (Utf8.decode s pos).2 = 1 := by rw [hd]
      rw [bytesOf_drop s pos hlt]
      have hwB : ∀ cur, wB (bt s pos :: (bytesOf s).drop (pos + 1)) cur = if cur = [] then wB ((bytesOf s).drop (pos + 1)) [] else cur :: wB ((bytesOf s).drop (pos + 1)) [] := by
        intro cur
        conv => lhs; unfold wB
        rw [if_pos hx]
      rw [hwB]
      cases st with
      | none =>
        have he : Lib.spansFromP blankN s (f + 1) pos none acc = Lib.spansFromP blankN s f (pos + 1) none acc := by
          conv => lhs; unfold Lib.spansFromP
          rw [if_pos hlt, if_pos hbl, hw1]
        rw [he, ih (pos + 1) none acc (by omega) (by omega) (fun a h => by cases h)]
        rfl
      | some a =>
        have ha := hst a rfl
        have he : Lib.spansFromP blankN s (f + 1) pos (some a) acc = Lib.spansFromP blankN s f (pos + 1) none (acc ++ [(a, pos)]) := by
          conv => lhs; unfold Lib.spansFromP
          rw [if_pos hlt, if_pos hbl, hw1]
        have hne : ¬ (curB s (some a) pos = []) := by
          intro h
          have := congrArg List.length h
          unfold curB at this
          rw [List.length_take, List.length_drop, bytesOf_length, List.length_nil] at this
          omega
        rw [he, ih (pos + 1) none _ (by omega) (by omega) (fun a h => by cases h), if_neg hne, List.map_append, List.append_assoc]
        simp only [List.map_cons, List.map_nil, List.singleton_append]
        rw [extract_bytes s a pos (by omega) (by omega)]
        rfl
    | false =>
      have hrun : ∀ x ∈ ((bytesOf s).drop pos).take (Utf8.decode s pos).2, isBl x = false := by
        intro x hx
        obtain ⟨j, hj⟩ := List.mem_iff_getElem?.mp hx
        rw [List.getElem?_take] at hj
        split at hj
        case isFalse => cases hj
        rename_i hjw
        rw [List.getElem?_drop] at hj
        by_cases hlow : (s[pos]'hlt).toNat < 128
        · have hd := decode_ascii s pos hlt hlow
          have hw1 : (Utf8.decode s pos).2 = 1 := by rw [hd]
          obtain rfl : j = 0 := by omega
          rw [Nat.add_zero, at_bytes s pos hlt] at hj
          rw [← Option.some.inj hj, hbt, bl_nat]
          rw [hd] at hbl
          exact hbl
        · have hjs : pos + j < s.size := by omega
          rw [at_bytes s (pos + j) hjs] at hj
          rw [← Option.some.inj hj]
          refine bl_high _ ?_
          by_cases hj0 : j = 0
          · subst hj0
            rw [Nat.add_zero, hbt]
            omega
          · have hc := (decode_cont s pos j (by omega) hjw).2
            rw [bt_bang s (pos + j) hjs]
            omega
      have hsplit : (bytesOf s).drop pos = ((bytesOf s).drop pos).take (Utf8.decode s pos).2 ++ (bytesOf s).drop (pos + (Utf8.decode s pos).2) := by
        rw [← List.drop_drop, List.take_append_drop]
      rw [hsplit, wB_run _ _ _ hrun]
      have hbn : ¬ (blankN (Utf8.decode s pos).1 = true) := by rw [hbl]; decide
      cases st with
      | none =>
        have he : Lib.spansFromP blankN s (f + 1) pos none acc = Lib.spansFromP blankN s f (pos + (Utf8.decode s pos).2) (some pos) acc := by
          conv => lhs; unfold Lib.spansFromP
          rw [if_pos hlt, if_neg hbn]
        rw [he, ih _ (some pos) acc (by omega) hend (fun a h => by cases h; omega)]
        unfold curB
        simp only [List.nil_append]
        rw [show pos + (Utf8.decode s pos).2 - pos = (Utf8.decode s pos).2 from by omega]
      | some a =>
        have ha := hst a rfl
        have he : Lib.spansFromP blankN s (f + 1) pos (some a) acc = Lib.spansFromP blankN s f (pos + (Utf8.decode s pos).2) (some a) acc := by
          conv => lhs; unfold Lib.spansFromP
          rw [if_pos hlt, if_neg hbn]
        rw [he, ih _ (some a) acc (by omega) hend (fun b h => by cases h; omega)]
        unfold curB
        simp only
        rw [cur_more s a pos _ (by omega)]
theorem words_bytes (p : ByteArray) : wordsOf p = (wB (bytesOf p) []).map strOfNums := by
  have h := spans_wB p p.size 0 none [] (by omega) (Nat.zero_le _) (fun a h => by cases h)
  rw [List.drop_zero] at h
  exact h

/-! ### the document's words -/
theorem bytes_one (s : ByteArray) (i : Nat) (h : i < s.size) : bytesOf (s.extract i (i + 1)) = [bt s i] := by
  rw [extract_one s i h]
  refine bytesOf_strOf _ (fun x hx => ?_)
  rw [List.mem_singleton.1 hx]
  exact bt_range s i
theorem empty_iff (own : ByteArray) : own.toList = ([] : List UInt8) ↔ bytesOf own = [] := by
  rw [toList_eq]
  unfold bytesOf
  simp
theorem refWords_loop (s : ByteArray) (hs : s.size ≤ 1000) (d : Nat) : ∀ (i : Nat) (out : List ByteArray) (own : ByteArray), i + d = s.size → out.length ≤ i → own.size ≤ i →
    Ev (fun k => abatisref15_Words.l0 k s out own (i : Int)) (out ++ (wB ((bytesOf s).drop i) (bytesOf own)).map strOfNums) := by
  induction d with
  | zero =>
    intro i out own hi ho hw
    obtain rfl : i = s.size := by omega
    have e : wrap64 ((s.size : Int) + 1) = ((s.size + 1 : Nat) : Int) := by unfold wrap64; omega
    rw [List.drop_of_length_le (by rw [bytesOf_length]; omega)]
    have hend : ∀ r : List ByteArray, Ev (fun k => abatisref15_Words.l0 k s r (⟨#[]⟩ : ByteArray) ((s.size + 1 : Nat) : Int)) r := fun r =>
      Ev.step (fun k => abatisref15_Words.l0.eq_2 ..) (ev_neg (by omega) (ev_now rfl))
    refine Ev.step (fun k => abatisref15_Words.l0.eq_2 ..) (ev_pos (by omega) (ev_neg (by omega) (Ev.step (fun k => abatisref15_Words.j1.eq_2 ..) (ev_neg (by decide) ?_))))
    rw [e]
    unfold wB
    by_cases hemp : own.toList = ([] : List UInt8)
    · rw [if_pos ((empty_iff own).1 hemp)]
      rw [List.map_nil, List.append_nil]
      exact ev_pos hemp (hend out)
    · rw [if_neg (fun h => hemp ((empty_iff own).2 h))]
      rw [List.map_cons, List.map_nil, strOf_bytesOf]
      exact ev_neg hemp (ev_pos (by omega) (hend _))
  | succ d ih =>
    intro i out own hi ho hw
    have hlt : i < s.size := by omega
    have e : wrap64 ((i : Int) + 1) = ((i + 1 : Nat) : Int) := by unfold wrap64; omega
    have hz : (s.extract i (i + 1)).size = 1 := by rw [ByteArray.size_extract]; omega
    rw [bytesOf_drop s i hlt]
    have blank : isBl (bt s i) = true → Ev (fun k => abatisref15_Words.j1 k s out own (i : Int) false) (out ++ (wB (bt s i :: (bytesOf s).drop (i + 1)) (bytesOf own)).map strOfNums) := by
      intro hb
      refine Ev.step (fun k => abatisref15_Words.j1.eq_2 ..) (ev_neg (by decide) ?_)
      rw [e]
      conv => arg 2; unfold wB
      rw [if_pos hb]
      by_cases hemp : own.toList = ([] : List UInt8)
      · rw [if_pos ((empty_iff own).1 hemp)]
        exact ev_pos hemp (ih (i + 1) out _ (by omega) (by omega) (Nat.zero_le _))
      · rw [if_neg (fun h => hemp ((empty_iff own).2 h))]
        have hn := ih (i + 1) (out ++ [own]) (⟨#[]⟩ : ByteArray) (by omega) (by rw [List.length_append, List.length_cons, List.length_nil]; omega) (Nat.zero_le _)
        rw [List.append_assoc] at hn
        rw [List.map_cons, strOf_bytesOf]
        exact ev_neg hemp (ev_pos (by omega) hn)
    refine Ev.step (fun k => abatisref15_Words.l0.eq_2 ..) (ev_pos (by omega) (ev_pos (by omega) (ev_pos (by omega) ?_)))
    by_cases h32 : bt s i = 32
    · exact ev_pos h32 (blank (by rw [h32]; rfl))
    · refine ev_neg h32 ?_
      by_cases h9 : bt s i = 9
      · have hbn : (bt s i != 9) = false := by rw [h9]; rfl
        rw [hbn]
        exact blank (by rw [h9]; rfl)
      · have hbn : (bt s i != 9) = true := bne_iff_ne.mpr h9
        have hnb : isBl (bt s i) = false := by
          unfold isBl
          rw [beq_eq_false_iff_ne.mpr h32, beq_eq_false_iff_ne.mpr h9]; rfl
        rw [hbn]
        have hn := ih (i + 1) out (own ++ s.extract i (i + 1)) (by omega) (by omega) (by rw [ByteArray.size_append]; omega)
        rw [bytesOf_append, bytes_one s i hlt] at hn
        conv => arg 2; unfold wB
        rw [if_neg (by rw [hnb]; decide)]
        refine Ev.step (fun k => abatisref15_Words.j1.eq_2 ..) (ev_pos rfl ?_)
        rw [e, Int.toNat_natCast, Int.toNat_natCast]
        exact ev_pos (by omega) (ev_pos (by omega) (ev_pos (by omega) (ev_pos (by omega) hn)))
theorem refWords_ev (s : ByteArray) (hs : s.size ≤ 1000) : Ev (fun k => abatisref15_Words.f k s) (wordsOf s) := by
  have h := refWords_loop s hs s.size 0 [] (⟨#[]⟩ : ByteArray) (by omega) (by simp) (Nat.zero_le _)
  rw [List.drop_zero, List.nil_append] at h
  rw [words_bytes]
  exact h
end Go.Proofs.Ytcpeecacoblbhaa.P
