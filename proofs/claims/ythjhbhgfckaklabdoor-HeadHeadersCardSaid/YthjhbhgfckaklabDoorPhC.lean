/-
  Plain laws, put together by mkpl.py.
-/
import Derived.Test.YthjhbhgfckaklabDoorBase
import Derived.Test.YthjhbhgfckaklabDoorTrim
import Derived.Test.YthjhbhgfckaklabDoorPR2
import Derived.Test.YthjhbhgfckaklabDoorPR3
namespace Go.Proofs.YthjhbhgfckaklabDoor.P
open Go.RowKit Go.Proofs.YthjhbhgfckaklabDoorW.PrintWords Go.Proofs.YthjhbhgfckaklabDoorW.PrintLast Go.Proofs.YthjhbhgfckaklabDoorW.PrintMore
set_option linter.unusedVariables false
set_option linter.unusedSimpArgs false

def few (s : ByteArray) (n : Nat) : ByteArray := if n < s.size then s.extract 0 n else s
theorem few_size (s : ByteArray) (n : Nat) : (few s n).size ≤ n := by
  unfold few
  split
  · rw [ByteArray.size_extract]; omega
  · omega
theorem Few_eq (s : ByteArray) (n : Nat) : abatisref01_Few.f s (n : Int) = some (few s n) := by
  unfold abatisref01_Few.f few
  by_cases h : n < s.size
  · rw [if_pos (by omega), if_pos (by omega), if_pos (by omega), if_pos h]; simp
  · rw [if_neg (by omega), if_neg h]
theorem extract_one (s : ByteArray) (i : Nat) (h : i < s.size) : s.extract i (i + 1) = strOfNums [bt s i] := by
  rw [bt_get s i h]
  apply ByteArray.ext
  apply Array.ext'
  unfold strOfNums
  simp only [ByteArray.data_extract, Array.toList_extract, List.map_cons, List.map_nil, Int.toNat_natCast]
  have hl : i < s.data.toList.length := by rw [data_length]; exact h
  have : s.data.toList[i] = s[i]'h := by rw [Array.getElem_toList]; rfl
  simp [List.extract_eq_take_drop, List.drop_eq_getElem_cons hl, this]
theorem rdOf_at (l : List ByteArray) (i : Nat) (h : i < l.length) : rdOf ByteArray.empty l (i : Int) = l[i] := by
  unfold rdOf
  rw [Int.toNat_natCast, List.getD_eq_getElem?_getD, List.getElem?_eq_getElem h]
  rfl
/-! ### blanks -/
def blank8 (b : UInt8) : Bool := [32, 9].contains b
theorem blank_eq (s : ByteArray) (i : Nat) (h : i < s.size) : abatisref01_blank.f (bt s i) = some (blank8 (s[i]'h)) := by
  rw [bt_get s i h]
  generalize s[i]'h = b
  revert b
  have : ∀ b : Fin 256, abatisref01_blank.f (((UInt8.ofNat b.val).toNat : Nat) : Int) = some (blank8 (UInt8.ofNat b.val)) := by decide +kernel
  intro b
  have hb := this ⟨b.toNat, b.toNat_lt⟩
  simp only [UInt8.ofNat_toNat] at hb
  exact hb
theorem at_data (s : ByteArray) (i : Nat) (h : i < s.size) : s.data.toList[i]? = some (s[i]'h) := by
  have hl : i < s.data.toList.length := by rw [data_length]; exact h
  rw [List.getElem?_eq_getElem hl, Array.getElem_toList]
  rfl
/-- The document's end: from k down. -/
theorem trim_down (s : ByteArray) (hs : s.size ≤ 1000) (i : Nat) (hi : i ≤ s.size) : ∀ k : Nat, i ≤ k → k ≤ s.size → (∀ (j : Nat) b, k ≤ j → s.data.toList[j]? = some b → blank8 b = true) →
    ∃ z, i ≤ z ∧ z ≤ s.size ∧ Ev (fun q => abatisref01_Trim.l1 q s (i : Int) (k : Int)) (s.extract i z) ∧ (∀ (j : Nat) b, z ≤ j → s.data.toList[j]? = some b → blank8 b = true) ∧
      (z = i ∨ ∀ b, s.data.toList[z - 1]? = some b → blank8 b = false) := by
  intro k
  induction k with
  | zero =>
    intro h1 h2 h3
    obtain rfl : i = 0 := by omega
    refine ⟨0, by omega, by omega, ?_, h3, .inl rfl⟩
    exact Ev.step (fun k => abatisref01_Trim.l1.eq_2 ..) (ev_neg (by omega) (ev_pos (by omega) (ev_pos (by omega) (ev_pos (by omega) (ev_now rfl)))))
  | succ k ih =>
    intro h1 h2 h3
    by_cases hk : i = k + 1
    · refine ⟨k + 1, by omega, by omega, ?_, h3, .inl hk.symm⟩
      refine Ev.step (fun k => abatisref01_Trim.l1.eq_2 ..) (ev_neg (by omega) (ev_pos (by omega) (ev_pos (by omega) (ev_pos (by omega) (ev_now ?_)))))
      rw [Int.toNat_natCast, Int.toNat_natCast]
    · have e : wrap64 (((k + 1 : Nat) : Int) - 1) = (k : Int) := by unfold wrap64; omega
      have hlt : k < s.size := by omega
      have hb := blank_eq s k hlt
      have hat := at_data s k hlt
      cases hbl : blank8 (s[k]'hlt) with
      | true =>
        rw [hbl] at hb
        obtain ⟨z, z1, z2, z3, z4, z5⟩ := ih (by omega) (by omega) (fun j b hj hjb => by
          by_cases hjk : j = k
          · subst hjk
            rw [hat] at hjb
            rw [← Option.some.inj hjb]
            exact hbl
          · exact h3 j b (by omega) hjb)
        refine ⟨z, z1, z2, ?_, z4, z5⟩
        refine Ev.step (fun k => abatisref01_Trim.l1.eq_2 ..) (ev_pos (by omega) ?_)
        rw [e]
        exact ev_pos (by omega) (ev_pos (by omega) (ev_get hb (ev_pos rfl z3)))
      | false =>
        rw [hbl] at hb
        refine ⟨k + 1, by omega, by omega, ?_, h3, .inr (fun b hb2 => ?_)⟩
        · refine Ev.step (fun k => abatisref01_Trim.l1.eq_2 ..) (ev_pos (by omega) ?_)
          rw [e]
          refine ev_pos (by omega) (ev_pos (by omega) (ev_get hb (ev_neg (by decide) (ev_pos (by omega) (ev_pos (by omega) (ev_pos (by omega) (ev_now ?_)))))))
          rw [Int.toNat_natCast, Int.toNat_natCast]
        · rw [Nat.add_sub_cancel, hat] at hb2
          rw [← Option.some.inj hb2]
          exact hbl
theorem trim_up (s : ByteArray) (hs : s.size ≤ 1000) (d : Nat) : ∀ i : Nat, i + d = s.size → (∀ (j : Nat) b, j < i → s.data.toList[j]? = some b → blank8 b = true) →
    ∃ y z, y ≤ z ∧ z ≤ s.size ∧ Ev (fun q => abatisref01_Trim.l0 q s (i : Int)) (s.extract y z) ∧ (∀ (j : Nat) b, j < y → s.data.toList[j]? = some b → blank8 b = true) ∧
      (y = s.size ∨ ∀ b, s.data.toList[y]? = some b → blank8 b = false) ∧
      (∀ (j : Nat) b, z ≤ j → s.data.toList[j]? = some b → blank8 b = true) ∧ (z = y ∨ ∀ b, s.data.toList[z - 1]? = some b → blank8 b = false) := by
  have out : ∀ (j : Nat) b, s.size ≤ j → s.data.toList[j]? = some b → blank8 b = true := by
    intro j b hj hb
    rw [List.getElem?_eq_none (by rw [data_length]; exact hj)] at hb
    cases hb
  induction d with
  | zero =>
    intro i hi hb
    obtain rfl : i = s.size := by omega
    obtain ⟨z, z1, z2, z3, z4, z5⟩ := trim_down s hs s.size (Nat.le_refl _) s.size (Nat.le_refl _) (Nat.le_refl _) out
    exact ⟨s.size, z, z1, z2, Ev.step (fun k => abatisref01_Trim.l0.eq_2 ..) (ev_neg (by omega) (Ev.step (fun k => abatisref01_Trim.j1.eq_2 ..) z3)), hb, .inl rfl, z4, z5⟩
  | succ d ih =>
    intro i hi hb
    have hlt : i < s.size := by omega
    have e : wrap64 ((i : Int) + 1) = ((i + 1 : Nat) : Int) := by unfold wrap64; omega
    have hbe := blank_eq s i hlt
    have hat := at_data s i hlt
    cases hbl : blank8 (s[i]'hlt) with
    | true =>
      rw [hbl] at hbe
      obtain ⟨y, z, h1, h2, h3, h4⟩ := ih (i + 1) (by omega) (fun j b hj hjb => by
          by_cases hjk : j = i
          · subst hjk
            rw [hat] at hjb
            rw [← Option.some.inj hjb]
            exact hbl
          · exact hb j b (by omega) hjb)
      refine ⟨y, z, h1, h2, ?_, h4⟩
      refine Ev.step (fun k => abatisref01_Trim.l0.eq_2 ..) (ev_pos (by omega) (ev_pos (by omega) (ev_get hbe (ev_pos rfl ?_))))
      rw [e]
      exact h3
    | false =>
      rw [hbl] at hbe
      obtain ⟨z, z1, z2, z3, z4, z5⟩ := trim_down s hs i (by omega) s.size (by omega) (Nat.le_refl _) out
      refine ⟨i, z, z1, z2, ?_, hb, .inr (fun b hb2 => ?_), z4, z5⟩
      · exact Ev.step (fun k => abatisref01_Trim.l0.eq_2 ..) (ev_pos (by omega) (ev_pos (by omega) (ev_get hbe (ev_neg (by decide) (Ev.step (fun k => abatisref01_Trim.j1.eq_2 ..) z3)))))
      · rw [hat] at hb2
        rw [← Option.some.inj hb2]
        exact hbl
/-- A list without blanks at its ends, if it is not empty. -/
def Bare (l : List UInt8) : Prop := (∀ b, l[0]? = some b → blank8 b = false) ∧ ∀ b, 0 < l.length → l[l.length - 1]? = some b → blank8 b = false
theorem trim_bare (l : List UInt8) (h : Bare l) : Lib.trimS l [32, 9] = l := by
  unfold Lib.trimS
  rw [Lib.trimRightS_take l [32, 9] l.length (Nat.le_refl _) (fun j b hj hb => by rw [List.getElem?_eq_none hj] at hb; cases hb) (fun b h0 hb => h.2 b h0 hb), List.take_length]
  rw [Lib.trimLeftS_drop l [32, 9] 0 (Nat.zero_le _) (fun j b hj => by omega) (fun b hb => h.1 b hb), List.drop_zero]
theorem trim_all (s : ByteArray) (hs : s.size ≤ 1000) : ∃ t : ByteArray, t.size ≤ s.size ∧ Ev (fun q => abatisref01_Trim.f q s) t ∧ (⟨(Lib.trimS s.data.toList [32, 9]).toArray⟩ : ByteArray) = t ∧ Bare t.data.toList := by
  obtain ⟨y, z, h1, h2, h3, h4, h5, h6, h7⟩ := trim_up s hs s.size 0 (by omega) (fun j b hj => by omega)
  refine ⟨s.extract y z, by rw [ByteArray.size_extract]; omega, h3, ?_⟩
  have hl := data_length s
  have hx : (s.extract y z).data.toList = (s.data.toList.take z).drop y := by
    rw [ByteArray.data_extract, Array.toList_extract, List.extract_eq_take_drop, List.take_drop]
    rw [show y + (z - y) = z from by omega]
  have key : Lib.trimS s.data.toList [32, 9] = (s.data.toList.take z).drop y ∧ Bare ((s.data.toList.take z).drop y) := by
    by_cases hyz : y = z
    · have he : (s.data.toList.take z).drop y = [] := by rw [List.drop_eq_nil_of_le]; rw [List.length_take]; omega
      have hys : y = s.size := by
        rcases h5 with h | h
        · exact h
        · by_cases hlt : y < s.size
          · have a1 := h _ (at_data s y hlt)
            have a2 := h6 y _ (by omega) (at_data s y hlt)
            rw [a1] at a2
            cases a2
          · omega
      have hall : Lib.trimRightS s.data.toList [32, 9] = [] := by
        rw [Lib.trimRightS_take _ [32, 9] 0 (Nat.zero_le _) (fun j b _ hb => ?_) (fun b h0 => by omega), List.take_zero]
        by_cases hj : j < y
        · exact h4 j b hj hb
        · rw [List.getElem?_eq_none (by omega)] at hb; cases hb
      rw [he]
      unfold Lib.trimS
      rw [hall]
      exact ⟨rfl, fun b hb => by simp at hb, fun b h0 => by simp at h0⟩
    · have h5' : ∀ b, s.data.toList[y]? = some b → blank8 b = false := by
        rcases h5 with h | h
        · omega
        · exact h
      have h7' : ∀ b, s.data.toList[z - 1]? = some b → blank8 b = false := by
        rcases h7 with h | h
        · exact absurd h.symm hyz
        · exact h
      have htk : ∀ j : Nat, j < z → (s.data.toList.take z)[j]? = s.data.toList[j]? := fun j hj => List.getElem?_take_of_lt hj
      constructor
      · unfold Lib.trimS
        rw [Lib.trimRightS_take _ [32, 9] z (by omega) h6 (fun b _ hb => h7' b hb)]
        rw [Lib.trimLeftS_drop _ [32, 9] y (by rw [List.length_take]; omega) (fun j b hj hb => h4 j b hj (by rw [htk j (by omega)] at hb; exact hb)) (fun b hb => h5' b (by rw [htk y (by omega)] at hb; exact hb))]
      · refine ⟨fun b hb => ?_, fun b h0 hb => ?_⟩
        · rw [List.getElem?_drop, Nat.add_zero, htk y (by omega)] at hb
          exact h5' b hb
        · rw [List.length_drop, List.length_take, List.getElem?_drop, htk _ (by omega)] at hb
          rw [show y + (min z s.data.toList.length - y - 1) = z - 1 from by omega] at hb
          exact h7' b hb
  rw [hx]
  refine ⟨?_, key.2⟩
  apply ByteArray.ext
  apply Array.ext'
  rw [hx, ← key.1]
theorem Trim_eq (s : ByteArray) (hs : s.size ≤ 1000) : text_Trim.f s = some (⟨(Lib.trimS s.data.toList [32, 9]).toArray⟩ : ByteArray) := by
  unfold text_Trim.f
  rw [if_pos (by omega)]
theorem has_loop (s : ByteArray) (hs : s.size ≤ 1000) (c : Int) (d : Nat) : ∀ i : Nat, i + d = s.size → Ev (fun k => abatisref01_Has.l0 k s c (i : Int)) (((bytesOf s).drop i).any (· == c)) := by
  induction d with
  | zero =>
    intro i hi
    rw [List.drop_of_length_le (by rw [bytesOf_length]; omega)]
    exact Ev.step (fun k => abatisref01_Has.l0.eq_2 ..) (ev_neg (by omega) (ev_now rfl))
  | succ d ih =>
    intro i hi
    have e : wrap64 ((i : Int) + 1) = ((i + 1 : Nat) : Int) := by unfold wrap64; omega
    refine Ev.step (fun k => abatisref01_Has.l0.eq_2 ..) (ev_pos (by omega) (ev_pos (by omega) ?_))
    rw [e, bytesOf_drop s i (by omega), List.any_cons]
    by_cases a : bt s i = c
    · rw [beq_iff_eq.2 a, Bool.true_or]
      exact ev_pos a (ev_now rfl)
    · rw [beq_eq_false_iff_ne.2 a, Bool.false_or]
      exact ev_neg a (ih (i + 1) (by omega))
theorem has_ev (s : ByteArray) (hs : s.size ≤ 1000) (c : Int) : Ev (fun k => abatisref01_Has.f k s c) ((bytesOf s).any (· == c)) := by
  have := has_loop s hs c s.size 0 (by omega)
  rw [List.drop_zero] at this
  exact this
theorem rdH_at (l : List S26) (i : Nat) (h : i < l.length) : rd_T26 l (i : Int) = l[i] := by
  unfold rd_T26
  rw [Int.toNat_natCast, List.getD_eq_getElem?_getD, List.getElem?_eq_getElem h]
  rfl
def Hs (l : List S26) : Prop := ∀ h ∈ l, h.f0.size ≤ 1000 ∧ h.f1.size ≤ 1000
theorem Hs.tail {h : S26} {l : List S26} (hh : Hs (h :: l)) : Hs l := fun x hx => hh x (List.mem_cons_of_mem _ hx)
/-! ### pieces without blanks at their ends -/
def trimB (s : ByteArray) : ByteArray := ⟨(Lib.trimS s.data.toList [32, 9]).toArray⟩
theorem refTrim_ev (s : ByteArray) (hs : s.size ≤ 1000) : Ev (fun q => abatisref01_Trim.f q s) (trimB s) ∧ (trimB s).size ≤ s.size := by
  obtain ⟨t, h1, h2, h3, _⟩ := trim_all s hs
  unfold trimB
  rw [h3]
  exact ⟨h2, h1⟩
theorem trimB_eq (s : ByteArray) (hs : s.size ≤ 1000) : text_Trim.f s = some (trimB s) := Trim_eq s hs
end Go.Proofs.YthjhbhgfckaklabDoor.P
