/-
  Plain laws for TextPieces: a text's pieces, and it without blanks at its ends.
-/
import Derived.Test.YtcpeecacoblbhaaDoorPlG
namespace Go.Proofs.YtcpeecacoblbhaaDoor.P
open Go.RowKit Go.Proofs.YtcpeecacoblbhaaDoorW.PrintWords Go.Proofs.YtcpeecacoblbhaaDoorW.PrintLast Go.Proofs.YtcpeecacoblbhaaDoorW.PrintMore
set_option linter.unusedVariables false
set_option linter.unusedSimpArgs false

/-! ### pieces, and what they are together -/
def jStep (sep : ByteArray) : Option ByteArray → ByteArray → Option ByteArray
  | none, a => some a
  | some x, a => some (x ++ sep ++ a)
def jOpt (sep : ByteArray) (l : List ByteArray) : Option ByteArray := l.foldl (jStep sep) none
/-- The pieces with sep between. -/
def joinB (sep : ByteArray) (l : List ByteArray) : ByteArray := (jOpt sep l).getD ByteArray.empty
theorem jOpt_snoc (sep : ByteArray) (l : List ByteArray) (a : ByteArray) : jOpt sep (l ++ [a]) = jStep sep (jOpt sep l) a := by
  unfold jOpt; rw [List.foldl_append]; rfl
theorem joinB_split (sep : ByteArray) (l : List ByteArray) (a b : ByteArray) : jOpt sep (l ++ [a] ++ [b]) = jOpt sep (l ++ [a ++ sep ++ b]) := by
  rw [jOpt_snoc, jOpt_snoc, jOpt_snoc]
  cases jOpt sep l with
  | none => rfl
  | some x => simp only [jStep, ByteArray.append_assoc]
theorem empty_append' (a : ByteArray) : ByteArray.empty ++ a = a := by apply ByteArray.ext; simp
theorem extract_one (s : ByteArray) (i : Nat) (h : i < s.size) : s.extract i (i + 1) = strOfNums [bt s i] := by
  rw [bt_get s i h]
  apply ByteArray.ext
  apply Array.ext'
  unfold strOfNums
  simp only [ByteArray.data_extract, Array.toList_extract, List.map_cons, List.map_nil, Int.toNat_natCast]
  have hl : i < s.data.toList.length := by rw [data_length]; exact h
  have : s.data.toList[i] = s[i]'h := by rw [Array.getElem_toList]; rfl
  simp [List.extract_eq_take_drop, List.drop_eq_getElem_cons hl, this]
theorem set_last (l : List ByteArray) (a b : ByteArray) : (l ++ [a]).set l.length b = l ++ [b] := by
  induction l with
  | nil => rfl
  | cons x l ih => simp [ih]
theorem rdOf_last (l : List ByteArray) (a : ByteArray) (j : Int) (hj : j = (l.length : Int)) : rdOf ByteArray.empty (l ++ [a]) j = a := by
  subst hj
  unfold rdOf
  rw [Int.toNat_natCast]
  simp

theorem split_loop (s : ByteArray) (c : Int) (hs : s.size ≤ 1000) (d : Nat) : ∀ (i p : Nat) (out : List ByteArray), i + d = s.size → p ≤ i → out.length ≤ i →
    ∃ L : List ByteArray, Ev (fun k => abatisref01_Split.l0 k s c out (p : Int) (i : Int)) L ∧ Ev (fun k => text_Split.l0 k s c (out ++ [s.extract p i]) (s.size : Int) (i : Int)) L ∧
      jOpt (strOfNums [c]) L = jOpt (strOfNums [c]) (out ++ [s.extract p s.size]) ∧ L.length ≤ s.size + 1 ∧ ∃ l a, L = l ++ [a] := by
  induction d with
  | zero =>
    intro i p out hi hp ho
    obtain rfl : i = s.size := by omega
    refine ⟨out ++ [s.extract p s.size], ?_, ?_, rfl, ?_, _, _, rfl⟩
    · exact Ev.step (fun k => abatisref01_Split.l0.eq_2 ..) (ev_neg (by omega) (ev_pos (by omega) (ev_pos (by omega) (ev_pos (by omega) (ev_now rfl)))))
    · exact Ev.step (fun k => text_Split.l0.eq_2 ..) (ev_neg (by omega) (ev_now rfl))
    · rw [List.length_append, List.length_cons, List.length_nil]; omega
  | succ d ih =>
    intro i p out hi hp ho
    have hlt : i < s.size := by omega
    have e : wrap64 ((i : Int) + 1) = ((i + 1 : Nat) : Int) := by unfold wrap64; omega
    by_cases hc : bt s i = c
    · obtain ⟨L, h1, h2, h3, h4, h5⟩ := ih (i + 1) (i + 1) (out ++ [s.extract p i]) (by omega) (by omega) (by rw [List.length_append, List.length_cons, List.length_nil]; omega)
      refine ⟨L, ?_, ?_, ?_, h4, h5⟩
      · refine Ev.step (fun k => abatisref01_Split.l0.eq_2 ..) (ev_pos (by omega) (ev_pos (by omega) (ev_pos hc (ev_pos (by omega) (ev_pos (by omega) (ev_pos (by omega) (ev_pos (by omega) ?_)))))))
        rw [e, Int.toNat_natCast, Int.toNat_natCast]
        exact h1
      · refine Ev.step (fun k => text_Split.l0.eq_2 ..) (ev_pos (by omega) (ev_pos (by omega) (ev_pos (by omega) (ev_pos hc (ev_pos ?_ ?_)))))
        · rw [List.length_append, List.length_cons, List.length_nil]; omega
        · rw [e]
          have : s.extract (i + 1) (i + 1) = (⟨#[]⟩ : ByteArray) := by
            apply ByteArray.ext
            apply Array.eq_empty_of_size_eq_zero
            simp
          rw [this] at h2
          exact h2
      · rw [h3, joinB_split]
        congr 3
        rw [← hc, ← extract_one s i hlt, ByteArray.append_assoc]
        rw [← ByteArray.extract_eq_extract_append_extract (i + 1) (by omega) (by omega)]
        rw [← ByteArray.extract_eq_extract_append_extract i (by omega) (by omega)]
    · obtain ⟨L, h1, h2, h3, h4, h5⟩ := ih (i + 1) p out (by omega) (by omega) (by omega)
      refine ⟨L, ?_, ?_, h3, h4, h5⟩
      · refine Ev.step (fun k => abatisref01_Split.l0.eq_2 ..) (ev_pos (by omega) (ev_pos (by omega) (ev_neg hc ?_)))
        rw [e]
        exact h1
      · have hl : (((out ++ [s.extract p i]).length : Nat) : Int) = (out.length : Int) + 1 := by rw [List.length_append, List.length_cons, List.length_nil]; omega
        have hw : wrap64 (((out ++ [s.extract p i]).length : Int) - 1) = (out.length : Int) := by rw [hl]; unfold wrap64; omega
        have hz1 : (s.extract p i).size ≤ 1000 := by rw [ByteArray.size_extract]; omega
        have hz2 : (s.extract i (i + 1)).size ≤ 1000 := by rw [ByteArray.size_extract]; omega
        refine Ev.step (fun k => text_Split.l0.eq_2 ..) (ev_pos (by omega) (ev_pos (by omega) (ev_pos (by omega) (ev_neg hc ?_))))
        rw [hw, e, rdOf_last _ _ _ rfl, Int.toNat_natCast, Int.toNat_natCast, Int.toNat_natCast, set_last]
        rw [← ByteArray.extract_eq_extract_append_extract i (by omega) (by omega)]
        exact ev_pos (by omega) (ev_pos (by omega) (ev_pos (by omega) (ev_pos (by omega) (ev_pos (by omega) h2))))
theorem same_loop (l : List ByteArray) (hl : l.length ≤ 100000) (d : Nat) : ∀ i : Nat, i + d = l.length → Ev (fun k => abatisref01_Same.l0 k l l (i : Int)) true := by
  induction d with
  | zero => intro i hi; exact Ev.step (fun k => abatisref01_Same.l0.eq_2 ..) (ev_neg (by omega) (ev_now rfl))
  | succ d ih =>
    intro i hi
    have e : wrap64 ((i : Int) + 1) = ((i + 1 : Nat) : Int) := by unfold wrap64; omega
    refine Ev.step (fun k => abatisref01_Same.l0.eq_2 ..) (ev_pos (by omega) (ev_pos (by omega) (ev_pos (by omega) (ev_pos rfl ?_))))
    rw [e]
    exact ih (i + 1) (by omega)
theorem same_ev (l : List ByteArray) (hl : l.length ≤ 100000) : Ev (fun k => abatisref01_Same.f k l l) true := by
  unfold abatisref01_Same.f
  exact ev_pos rfl (same_loop l hl l.length 0 (by omega))

/-! ### the document's Join -/
def jSize (sep : ByteArray) (l : List ByteArray) : Nat := (joinB sep l).size
theorem jSize_snoc (sep : ByteArray) (l : List ByteArray) (a : ByteArray) : jSize sep l ≤ jSize sep (l ++ [a]) := by
  unfold jSize joinB
  rw [jOpt_snoc]
  cases jOpt sep l with
  | none => simp [jStep]
  | some x => simp only [jStep, Option.getD_some, ByteArray.size_append]; omega
theorem jSize_le (sep : ByteArray) (l r : List ByteArray) : jSize sep l ≤ jSize sep (l ++ r) := by
  induction r generalizing l with
  | nil => rw [List.append_nil]; omega
  | cons a r ih =>
    have h1 := jSize_snoc sep l a
    have h2 := ih (l ++ [a])
    rw [List.append_assoc, List.singleton_append] at h2
    omega
theorem jOpt_some (sep : ByteArray) (l : List ByteArray) (h : l ≠ []) : jOpt sep l = some (joinB sep l) := by
  obtain ⟨m, a, rfl⟩ : ∃ m a, l = m ++ [a] := ⟨l.dropLast, l.getLast h, (List.dropLast_concat_getLast h).symm⟩
  unfold joinB
  rw [jOpt_snoc]
  cases jOpt sep m <;> rfl
theorem take_snoc (l : List ByteArray) (i : Nat) (h : i < l.length) : l.take (i + 1) = l.take i ++ [rdOf ByteArray.empty l (i : Int)] := by
  rw [List.take_add_one, List.getElem?_eq_getElem h]
  unfold rdOf
  rw [Int.toNat_natCast, List.getD_eq_getElem?_getD, List.getElem?_eq_getElem h]
  rfl
theorem join_loop (l : List ByteArray) (sep : ByteArray) (hl : l.length ≤ 100000) (hz : jSize sep l ≤ 1000000) (d : Nat) : ∀ i : Nat, i + d = l.length →
    Ev (fun k => abatisref01_Join.l0 k l sep (joinB sep (l.take i)) (i : Int)) (joinB sep l) := by
  induction d with
  | zero =>
    intro i hi
    rw [List.take_of_length_le (by omega)]
    exact Ev.step (fun k => abatisref01_Join.l0.eq_2 ..) (ev_neg (by omega) (ev_now rfl))
  | succ d ih =>
    intro i hi
    have e : wrap64 ((i : Int) + 1) = ((i + 1 : Nat) : Int) := by unfold wrap64; omega
    have hn := ih (i + 1) (by omega)
    have hle := jSize_le sep (l.take (i + 1)) (l.drop (i + 1))
    rw [List.take_append_drop] at hle
    have hsz : (joinB sep (l.take (i + 1))).size ≤ 1000000 := Nat.le_trans hle hz
    rw [take_snoc l i (by omega)] at hn hsz
    refine Ev.step (fun k => abatisref01_Join.l0.eq_2 ..) (ev_pos (by omega) ?_)
    rw [e]
    cases i with
    | zero =>
      have e0 : joinB sep (l.take 0 ++ [rdOf ByteArray.empty l ((0 : Nat) : Int)]) = rdOf ByteArray.empty l ((0 : Nat) : Int) := rfl
      have e1 : joinB sep (l.take 0) = ByteArray.empty := rfl
      rw [e0] at hn hsz
      rw [e1, empty_append']
      refine ev_neg (by omega) (ev_pos (by omega) (ev_pos ?_ hn))
      have : ByteArray.empty.size = 0 := rfl
      omega
    | succ j =>
      have hne : l.take (j + 1) ≠ [] := by
        intro h
        have := congrArg List.length h
        rw [List.length_take, List.length_nil] at this
        omega
      have e0 : joinB sep (l.take (j + 1) ++ [rdOf ByteArray.empty l ((j + 1 : Nat) : Int)]) = joinB sep (l.take (j + 1)) ++ sep ++ rdOf ByteArray.empty l ((j + 1 : Nat) : Int) := by
        conv => lhs; unfold joinB
        rw [jOpt_snoc, jOpt_some sep _ hne]
        rfl
      rw [e0] at hn hsz
      rw [ByteArray.size_append, ByteArray.size_append] at hsz
      refine ev_pos (by omega) (ev_pos (by omega) (ev_pos (by omega) (ev_pos ?_ hn)))
      rw [ByteArray.size_append]
      omega
theorem join_ev (l : List ByteArray) (sep : ByteArray) (hl : l.length ≤ 100000) (hz : jSize sep l ≤ 1000000) : Ev (fun k => abatisref01_Join.f k l sep) (joinB sep l) :=
  join_loop l sep hl hz l.length 0 (by omega)

/-! ### blanks -/
def blank8 (b : UInt8) : Bool := [32, 9].contains b
theorem blank_eq (s : ByteArray) (i : Nat) (h : i < s.size) : abatisref01_blank.f (bt s i) = some (blank8 (s[i]'h)) := by
  rw [bt_get s i h]
  generalize s[i]'h = b
  revert b
  have : ∀ b : Fin 256, abatisref01_blank.f (((UInt8.ofNat b.val).toNat : Nat) : Int) = some (blank8 (UInt8.ofNat b.val)) := by decide +kernel
  intro b
  have hb := this ⟨b.toNat, b.toNat_lt⟩
  simp only [UInt8.ofNat_toNat] at hb
  exact hb
theorem at_data (s : ByteArray) (i : Nat) (h : i < s.size) : s.data.toList[i]? = some (s[i]'h) := by
  have hl : i < s.data.toList.length := by rw [data_length]; exact h
  rw [List.getElem?_eq_getElem hl, Array.getElem_toList]
  rfl
/-- The document's end: from k down. -/
theorem trim_down (s : ByteArray) (hs : s.size ≤ 1000) (i : Nat) (hi : i ≤ s.size) : ∀ k : Nat, i ≤ k → k ≤ s.size → (∀ (j : Nat) b, k ≤ j → s.data.toList[j]? = some b → blank8 b = true) →
    ∃ z, i ≤ z ∧ z ≤ s.size ∧ Ev (fun q => abatisref01_Trim.l1 q s (i : Int) (k : Int)) (s.extract i z) ∧ (∀ (j : Nat) b, z ≤ j → s.data.toList[j]? = some b → blank8 b = true) ∧
      (z = i ∨ ∀ b, s.data.toList[z - 1]? = some b → blank8 b = false) := by
  intro k
  induction k with
  | zero =>
    intro h1 h2 h3
    obtain rfl : i = 0 := by omega
    refine ⟨0, by omega, by omega, ?_, h3, .inl rfl⟩
    exact Ev.step (fun k => abatisref01_Trim.l1.eq_2 ..) (ev_neg (by omega) (ev_pos (by omega) (ev_pos (by omega) (ev_pos (by omega) (ev_now rfl)))))
  | succ k ih =>
    intro h1 h2 h3
    by_cases hk : i = k + 1
    · refine ⟨k + 1, by omega, by omega, ?_, h3, .inl hk.symm⟩
      refine Ev.step (fun k => abatisref01_Trim.l1.eq_2 ..) (ev_neg (by omega) (ev_pos (by omega) (ev_pos (by omega) (ev_pos (by omega) (ev_now ?_)))))
      rw [Int.toNat_natCast, Int.toNat_natCast]
    · have e : wrap64 (((k + 1 : Nat) : Int) - 1) = (k : Int) := by unfold wrap64; omega
      have hlt : k < s.size := by omega
      have hb := blank_eq s k hlt
      have hat := at_data s k hlt
      cases hbl : blank8 (s[k]'hlt) with
      | true =>
        rw [hbl] at hb
        obtain ⟨z, z1, z2, z3, z4, z5⟩ := ih (by omega) (by omega) (fun j b hj hjb => by
          by_cases hjk : j = k
          · subst hjk
            rw [hat] at hjb
            rw [← Option.some.inj hjb]
            exact hbl
          · exact h3 j b (by omega) hjb)
        refine ⟨z, z1, z2, ?_, z4, z5⟩
        refine Ev.step (fun k => abatisref01_Trim.l1.eq_2 ..) (ev_pos (by omega) ?_)
        rw [e]
        exact ev_pos (by omega) (ev_pos (by omega) (ev_get hb (ev_pos rfl z3)))
      | false =>
        rw [hbl] at hb
        refine ⟨k + 1, by omega, by omega, ?_, h3, .inr (fun b hb2 => ?_)⟩
        · refine Ev.step (fun k => abatisref01_Trim.l1.eq_2 ..) (ev_pos (by omega) ?_)
          rw [e]
          refine ev_pos (by omega) (ev_pos (by omega) (ev_get hb (ev_neg (by decide) (ev_pos (by omega) (ev_pos (by omega) (ev_pos (by omega) (ev_now ?_)))))))
          rw [Int.toNat_natCast, Int.toNat_natCast]
        · rw [Nat.add_sub_cancel, hat] at hb2
          rw [← Option.some.inj hb2]
          exact hbl
theorem trim_up (s : ByteArray) (hs : s.size ≤ 1000) (d : Nat) : ∀ i : Nat, i + d = s.size → (∀ (j : Nat) b, j < i → s.data.toList[j]? = some b → blank8 b = true) →
    ∃ y z, y ≤ z ∧ z ≤ s.size ∧ Ev (fun q => abatisref01_Trim.l0 q s (i : Int)) (s.extract y z) ∧ (∀ (j : Nat) b, j < y → s.data.toList[j]? = some b → blank8 b = true) ∧
      (y = s.size ∨ ∀ b, s.data.toList[y]? = some b → blank8 b = false) ∧
      (∀ (j : Nat) b, z ≤ j → s.data.toList[j]? = some b → blank8 b = true) ∧ (z = y ∨ ∀ b, s.data.toList[z - 1]? = some b → blank8 b = false) := by
  have out : ∀ (j : Nat) b, s.size ≤ j → s.data.toList[j]? = some b → blank8 b = true := by
    intro j b hj hb
    rw [List.getElem?_eq_none (by rw [data_length]; exact hj)] at hb
    cases hb
  induction d with
  | zero =>
    intro i hi hb
    obtain rfl : i = s.size := by omega
    obtain ⟨z, z1, z2, z3, z4, z5⟩ := trim_down s hs s.size (Nat.le_refl _) s.size (Nat.le_refl _) (Nat.le_refl _) out
    exact ⟨s.size, z, z1, z2, Ev.step (fun k => abatisref01_Trim.l0.eq_2 ..) (ev_neg (by omega) (Ev.step (fun k => abatisref01_Trim.j1.eq_2 ..) z3)), hb, .inl rfl, z4, z5⟩
  | succ d ih =>
    intro i hi hb
    have hlt : i < s.size := by omega
    have e : wrap64 ((i : Int) + 1) = ((i + 1 : Nat) : Int) := by unfold wrap64; omega
    have hbe := blank_eq s i hlt
    have hat := at_data s i hlt
    cases hbl : blank8 (s[i]'hlt) with
    | true =>
      rw [hbl] at hbe
      obtain ⟨y, z, h1, h2, h3, h4⟩ := ih (i + 1) (by omega) (fun j b hj hjb => by
          by_cases hjk : j = i
          · subst hjk
            rw [hat] at hjb
            rw [← Option.some.inj hjb]
            exact hbl
          · exact hb j b (by omega) hjb)
      refine ⟨y, z, h1, h2, ?_, h4⟩
      refine Ev.step (fun k => abatisref01_Trim.l0.eq_2 ..) (ev_pos (by omega) (ev_pos (by omega) (ev_get hbe (ev_pos rfl ?_))))
      rw [e]
      exact h3
    | false =>
      rw [hbl] at hbe
      obtain ⟨z, z1, z2, z3, z4, z5⟩ := trim_down s hs i (by omega) s.size (by omega) (Nat.le_refl _) out
      refine ⟨i, z, z1, z2, ?_, hb, .inr (fun b hb2 => ?_), z4, z5⟩
      · exact Ev.step (fun k => abatisref01_Trim.l0.eq_2 ..) (ev_pos (by omega) (ev_pos (by omega) (ev_get hbe (ev_neg (by decide) (Ev.step (fun k => abatisref01_Trim.j1.eq_2 ..) z3)))))
      · rw [hat] at hb2
        rw [← Option.some.inj hb2]
        exact hbl
/-- A list without blanks at its ends, if it is not empty. -/
def Bare (l : List UInt8) : Prop := (∀ b, l[0]? = some b → blank8 b = false) ∧ ∀ b, 0 < l.length → l[l.length - 1]? = some b → blank8 b = false
theorem trim_bare (l : List UInt8) (h : Bare l) : Lib.trimS l [32, 9] = l := by
  unfold Lib.trimS
  rw [Lib.trimRightS_take l [32, 9] l.length (Nat.le_refl _) (fun j b hj hb => by rw [List.getElem?_eq_none hj] at hb; cases hb) (fun b h0 hb => h.2 b h0 hb), List.take_length]
  rw [Lib.trimLeftS_drop l [32, 9] 0 (Nat.zero_le _) (fun j b hj => by omega) (fun b hb => h.1 b hb), List.drop_zero]
theorem trim_all (s : ByteArray) (hs : s.size ≤ 1000) : ∃ t : ByteArray, t.size ≤ s.size ∧ Ev (fun q => abatisref01_Trim.f q s) t ∧ (⟨(Lib.trimS s.data.toList [32, 9]).toArray⟩ : ByteArray) = t ∧ Bare t.data.toList := by
  obtain ⟨y, z, h1, h2, h3, h4, h5, h6, h7⟩ := trim_up s hs s.size 0 (by omega) (fun j b hj => by omega)
  refine ⟨s.extract y z, by rw [ByteArray.size_extract]; omega, h3, ?_⟩
  have hl := data_length s
  have hx : (s.extract y z).data.toList = (s.data.toList.take z).drop y := by
    rw [ByteArray.data_extract, Array.toList_extract, List.extract_eq_take_drop, List.take_drop]
    rw [show y + (z - y) = z from by omega]
  have key : Lib.trimS s.data.toList [32, 9] = (s.data.toList.take z).drop y ∧ Bare ((s.data.toList.take z).drop y) := by
    by_cases hyz : y = z
    · have he : (s.data.toList.take z).drop y = [] := by rw [List.drop_eq_nil_of_le]; rw [List.length_take]; omega
      have hys : y = s.size := by
        rcases h5 with h | h
        · exact h
        · by_cases hlt : y < s.size
          · have a1 := h _ (at_data s y hlt)
            have a2 := h6 y _ (by omega) (at_data s y hlt)
            rw [a1] at a2
            cases a2
          · omega
      have hall : Lib.trimRightS s.data.toList [32, 9] = [] := by
        rw [Lib.trimRightS_take _ [32, 9] 0 (Nat.zero_le _) (fun j b _ hb => ?_) (fun b h0 => by omega), List.take_zero]
        by_cases hj : j < y
        · exact h4 j b hj hb
        · rw [List.getElem?_eq_none (by omega)] at hb; cases hb
      rw [he]
      unfold Lib.trimS
      rw [hall]
      exact ⟨rfl, fun b hb => by simp at hb, fun b h0 => by simp at h0⟩
    · have h5' : ∀ b, s.data.toList[y]? = some b → blank8 b = false := by
        rcases h5 with h | h
        · omega
        · exact h
      have h7' : ∀ b, s.data.toList[z - 1]? = some b → blank8 b = false := by
        rcases h7 with h | h
        · exact absurd h.symm hyz
        · exact h
      have htk : ∀ j : Nat, j < z → (s.data.toList.take z)[j]? = s.data.toList[j]? := fun j hj => List.getElem?_take_of_lt hj
      constructor
      · unfold Lib.trimS
        rw [Lib.trimRightS_take _ [32, 9] z (by omega) h6 (fun b _ hb => h7' b hb)]
        rw [Lib.trimLeftS_drop _ [32, 9] y (by rw [List.length_take]; omega) (fun j b hj hb => h4 j b hj (by rw [htk j (by omega)] at hb; exact hb)) (fun b hb => h5' b (by rw [htk y (by omega)] at hb; exact hb))]
      · refine ⟨fun b hb => ?_, fun b h0 hb => ?_⟩
        · rw [List.getElem?_drop, Nat.add_zero, htk y (by omega)] at hb
          exact h5' b hb
        · rw [List.length_drop, List.length_take, List.getElem?_drop, htk _ (by omega)] at hb
          rw [show y + (min z s.data.toList.length - y - 1) = z - 1 from by omega] at hb
          exact h7' b hb
  rw [hx]
  refine ⟨?_, key.2⟩
  apply ByteArray.ext
  apply Array.ext'
  rw [hx, ← key.1]
theorem Trim_eq (s : ByteArray) (hs : s.size ≤ 1000) : text_Trim.f s = some (⟨(Lib.trimS s.data.toList [32, 9]).toArray⟩ : ByteArray) := by
  unfold text_Trim.f
  rw [if_pos (by omega)]
theorem whole_text (s : ByteArray) : s.extract 0 s.size = s := by simp
theorem TextPieces_ev (a : ByteArray) (c : Int) (hc : (Lit.int .u8 c).wf = true) : Ev (fun k => abatislaw01_TextPieces.f k a c) true := by
  have hw : 0 ≤ c ∧ c ≤ 255 := by
    simp [Lit.wf] at hc
    exact hc
  have h1 : abatisref01_Few.f a 100 = some (few a 100) := Few_eq a 100
  have s1 := few_size a 100
  unfold abatislaw01_TextPieces.f
  generalize few a 100 = s at *
  obtain ⟨L, e1, e2, e3, e4, l, x, hL⟩ := split_loop s c (by omega) s.size 0 0 [] (by omega) (by omega) (by simp)
  have e2' : Ev (fun k => text_Split.f k s c) L := by
    have : s.extract 0 0 = (⟨#[]⟩ : ByteArray) := by
      apply ByteArray.ext
      apply Array.eq_empty_of_size_eq_zero
      simp
    rw [this] at e2
    exact e2
  have hj : joinB (strOfNums [c]) L = s := by
    unfold joinB
    rw [e3, List.nil_append, whole_text]
    rfl
  obtain ⟨t, t1, t2, t3, t4⟩ := trim_all s (by omega)
  have hT := (Trim_eq s (by omega)).trans (congrArg some t3)
  have hT2 : text_Trim.f t = some t := by
    rw [Trim_eq t (by omega), trim_bare _ t4]
  have hJ := join_ev L (strOfNums [c]) (by omega) (by unfold jSize; rw [hj]; omega)
  rw [hj] at hJ
  refine ev_get h1 (Ev.bind e2' (ev_get hT (Ev.bind e1 (Ev.bind (same_ev L (by omega)) (ev_true (Ev.bind hJ (ev_pos rfl (Ev.bind t2 (ev_pos rfl (ev_get hT2 (ev_pos rfl (Ev.bind lives01_ev (Ev.now _)))))))))))))
end Go.Proofs.YtcpeecacoblbhaaDoor.P
