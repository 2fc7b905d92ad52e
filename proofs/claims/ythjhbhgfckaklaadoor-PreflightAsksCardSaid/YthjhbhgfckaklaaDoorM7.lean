/-
  Texts of the proof, put together.
-/
import Derived.Test.YthjhbhgfckaklaaDoorM4
import Derived.Test.YthjhbhgfckaklaaDoorTrim
import Derived.Test.YthjhbhgfckaklaaDoorM6
import Derived.Test.YthjhbhgfckaklaaDoorM2
import Derived.Test.YthjhbhgfckaklaaDoorM3
section
namespace Go.Proofs.YthjhbhgfckaklaaDoor.P
open Go.RowKit Go.Proofs.YthjhbhgfckaklaaDoorW.PrintWords Go.Proofs.YthjhbhgfckaklaaDoorW.PrintLast Go.Proofs.YthjhbhgfckaklaaDoorW.PrintMore
set_option linter.unusedVariables false
set_option linter.unusedSimpArgs false
def blank8 (b : UInt8) : Bool := [32, 9].contains b
theorem blank_eq (s : ByteArray) (i : Nat) (h : i < s.size) : r01_blank.f (bt s i) = some (blank8 (s[i]'h)) := by
 rw [bt_get s i h]
 generalize s[i]'h = b
 revert b
 have : ∀ b : Fin 256, r01_blank.f (((UInt8.ofNat b.val).toNat : Nat) : Int) = some (blank8 (UInt8.ofNat b.val)) := by decide +kernel
 intro b
 have hb := this ⟨b.toNat, b.toNat_lt⟩
 simp only [UInt8.ofNat_toNat] at hb
 exact hb
theorem at_data (s : ByteArray) (i : Nat) (h : i < s.size) : s.data.toList[i]? = some (s[i]'h) := by
 have hl : i < s.data.toList.length := by rw [data_length]; exact h
 rw [List.getElem?_eq_getElem hl, Array.getElem_toList]
 rfl
theorem trim_down (s : ByteArray) (hs : s.size ≤ 9223372036854775807) (i : Nat) (hi : i ≤ s.size) : ∀ k : Nat, i ≤ k → k ≤ s.size → (∀ (j : Nat) b, k ≤ j → s.data.toList[j]? = some b → blank8 b = true) →
  ∃ z, i ≤ z ∧ z ≤ s.size ∧ Ev (fun q => r01_Trim.l1 q s (i : Int) (k : Int)) (s.extract i z) ∧ (∀ (j : Nat) b, z ≤ j → s.data.toList[j]? = some b → blank8 b = true) ∧
   (z = i ∨ ∀ b, s.data.toList[z - 1]? = some b → blank8 b = false) := by
 intro k
 induction k with
 | zero =>
  intro h1 h2 h3
  obtain rfl : i = 0 := by omega
  refine ⟨0, by omega, by omega, ?_, h3, .inl rfl⟩
  exact Ev.step (fun k => r01_Trim.l1.eq_2 ..) (ev_neg (by omega) (ev_pos (by omega) (ev_pos (by omega) (ev_pos (by omega) (ev_now rfl)))))
 | succ k ih =>
  intro h1 h2 h3
  by_cases hk : i = k + 1
  ·refine ⟨k + 1, by omega, by omega, ?_, h3, .inl hk.symm⟩
   refine Ev.step (fun k => r01_Trim.l1.eq_2 ..) (ev_neg (by omega) (ev_pos (by omega) (ev_pos (by omega) (ev_pos (by omega) (ev_now ?_)))))
   rw [Int.toNat_natCast, Int.toNat_natCast]
  ·have e : wrap64 (((k + 1 : Nat) : Int) - 1) = (k : Int) := by unfold wrap64; omega
   have hlt : k < s.size := by omega
   have hb := blank_eq s k hlt
   have hat := at_data s k hlt
   cases hbl : blank8 (s[k]'hlt) with
   | true =>
    rw [hbl] at hb
    obtain ⟨z, z1, z2, z3, z4, z5⟩ := ih (by omega) (by omega) (fun j b hj hjb => by
     by_cases hjk : j = k
     ·subst hjk
      rw [hat] at hjb
      rw [← Option.some.inj hjb]
      exact hbl
     ·exact h3 j b (by omega) hjb)
    refine ⟨z, z1, z2, ?_, z4, z5⟩
    refine Ev.step (fun k => r01_Trim.l1.eq_2 ..) (ev_pos (by omega) ?_)
    rw [e]
    exact ev_pos (by omega) (ev_pos (by omega) (ev_get hb (ev_pos rfl z3)))
   | false =>
    rw [hbl] at hb
    refine ⟨k + 1, by omega, by omega, ?_, h3, .inr (fun b hb2 => ?_)⟩
    ·refine Ev.step (fun k => r01_Trim.l1.eq_2 ..) (ev_pos (by omega) ?_)
     rw [e]
     refine ev_pos (by omega) (ev_pos (by omega) (ev_get hb (ev_neg (by decide) (ev_pos (by omega) (ev_pos (by omega) (ev_pos (by omega) (ev_now ?_)))))))
     rw [Int.toNat_natCast, Int.toNat_natCast]
    ·rw [Nat.add_sub_cancel, hat] at hb2
     rw [← Option.some.inj hb2]
     exact hbl
theorem trim_up (s : ByteArray) (hs : s.size ≤ 9223372036854775807) (d : Nat) : ∀ i : Nat, i + d = s.size → (∀ (j : Nat) b, j < i → s.data.toList[j]? = some b → blank8 b = true) →
  ∃ y z, y ≤ z ∧ z ≤ s.size ∧ Ev (fun q => r01_Trim.l0 q s (i : Int)) (s.extract y z) ∧ (∀ (j : Nat) b, j < y → s.data.toList[j]? = some b → blank8 b = true) ∧
   (y = s.size ∨ ∀ b, s.data.toList[y]? = some b → blank8 b = false) ∧
   (∀ (j : Nat) b, z ≤ j → s.data.toList[j]? = some b → blank8 b = true) ∧ (z = y ∨ ∀ b, s.data.toList[z - 1]? = some b → blank8 b = false) := by
 have out : ∀ (j : Nat) b, s.size ≤ j → s.data.toList[j]? = some b → blank8 b = true := by
  intro j b hj hb
  rw [List.getElem?_eq_none (by rw [data_length]; exact hj)] at hb
  cases hb
 induction d with
 | zero =>
  intro i hi hb
  obtain rfl : i = s.size := by omega
  obtain ⟨z, z1, z2, z3, z4, z5⟩ := trim_down s hs s.size (Nat.le_refl _) s.size (Nat.le_refl _) (Nat.le_refl _) out
  exact ⟨s.size, z, z1, z2, Ev.step (fun k => r01_Trim.l0.eq_2 ..) (ev_neg (by omega) (Ev.step (fun k => r01_Trim.j1.eq_2 ..) z3)), hb, .inl rfl, z4, z5⟩
 | succ d ih =>
  intro i hi hb
  have hlt : i < s.size := by omega
  have e : wrap64 ((i : Int) + 1) = ((i + 1 : Nat) : Int) := by unfold wrap64; omega
  have hbe := blank_eq s i hlt
  have hat := at_data s i hlt
  cases hbl : blank8 (s[i]'hlt) with
  | true =>
   rw [hbl] at hbe
   obtain ⟨y, z, h1, h2, h3, h4⟩ := ih (i + 1) (by omega) (fun j b hj hjb => by
     by_cases hjk : j = i
     ·subst hjk
      rw [hat] at hjb
      rw [← Option.some.inj hjb]
      exact hbl
     ·exact hb j b (by omega) hjb)
   refine ⟨y, z, h1, h2, ?_, h4⟩
   refine Ev.step (fun k => r01_Trim.l0.eq_2 ..) (ev_pos (by omega) (ev_pos (by omega) (ev_get hbe (ev_pos rfl ?_))))
   rw [e]
   exact h3
  | false =>
   rw [hbl] at hbe
   obtain ⟨z, z1, z2, z3, z4, z5⟩ := trim_down s hs i (by omega) s.size (by omega) (Nat.le_refl _) out
   refine ⟨i, z, z1, z2, ?_, hb, .inr (fun b hb2 => ?_), z4, z5⟩
   ·exact Ev.step (fun k => r01_Trim.l0.eq_2 ..) (ev_pos (by omega) (ev_pos (by omega) (ev_get hbe (ev_neg (by decide) (Ev.step (fun k => r01_Trim.j1.eq_2 ..) z3)))))
   ·rw [hat] at hb2
    rw [← Option.some.inj hb2]
    exact hbl
def Bare (l : List UInt8) : Prop := (∀ b, l[0]? = some b → blank8 b = false) ∧ ∀ b, 0 < l.length → l[l.length - 1]? = some b → blank8 b = false
theorem trim_bare (l : List UInt8) (h : Bare l) : Lib.trimS l [32, 9] = l := by
 unfold Lib.trimS
 rw [Lib.trimRightS_take l [32, 9] l.length (Nat.le_refl _) (fun j b hj hb => by rw [List.getElem?_eq_none hj] at hb; cases hb) (fun b h0 hb => h.2 b h0 hb), List.take_length]
 rw [Lib.trimLeftS_drop l [32, 9] 0 (Nat.zero_le _) (fun j b hj => by omega) (fun b hb => h.1 b hb), List.drop_zero]
theorem trim_all (s : ByteArray) (hs : s.size ≤ 9223372036854775807) : ∃ t : ByteArray, t.size ≤ s.size ∧ Ev (fun q => r01_Trim.f q s) t ∧ (⟨(Lib.trimS s.data.toList [32, 9]).toArray⟩ : ByteArray) = t ∧ Bare t.data.toList := by
 obtain ⟨y, z, h1, h2, h3, h4, h5, h6, h7⟩ := trim_up s hs s.size 0 (by omega) (fun j b hj => by omega)
 refine ⟨s.extract y z, by rw [ByteArray.size_extract]; omega, h3, ?_⟩
 have hl := data_length s
 have hx : (s.extract y z).data.toList = (s.data.toList.take z).drop y := by
  rw [ByteArray.data_extract, Array.toList_extract, List.extract_eq_take_drop, List.take_drop]
  rw [show y + (z - y) = z from by omega]
 have key : Lib.trimS s.data.toList [32, 9] = (s.data.toList.take z).drop y ∧ Bare ((s.data.toList.take z).drop y) := by
  by_cases hyz : y = z
  ·have he : (s.data.toList.take z).drop y = [] := by rw [List.drop_eq_nil_of_le]; rw [List.length_take]; omega
   have hys : y = s.size := by
    rcases h5 with h | h
    ·exact h
    ·by_cases hlt : y < s.size
     ·have a1 := h _ (at_data s y hlt)
      have a2 := h6 y _ (by omega) (at_data s y hlt)
      rw [a1] at a2
      cases a2
     ·omega
   have hall : Lib.trimRightS s.data.toList [32, 9] = [] := by
    rw [Lib.trimRightS_take _ [32, 9] 0 (Nat.zero_le _) (fun j b _ hb => ?_) (fun b h0 => by omega), List.take_zero]
    by_cases hj : j < y
    ·exact h4 j b hj hb
    ·rw [List.getElem?_eq_none (by omega)] at hb; cases hb
   rw [he]
   unfold Lib.trimS
   rw [hall]
   exact ⟨rfl, fun b hb => by simp at hb, fun b h0 => by simp at h0⟩
  ·have h5' : ∀ b, s.data.toList[y]? = some b → blank8 b = false := by
    rcases h5 with h | h
    ·omega
    ·exact h
   have h7' : ∀ b, s.data.toList[z - 1]? = some b → blank8 b = false := by
    rcases h7 with h | h
    ·exact absurd h.symm hyz
    ·exact h
   have htk : ∀ j : Nat, j < z → (s.data.toList.take z)[j]? = s.data.toList[j]? := fun j hj => List.getElem?_take_of_lt hj
   constructor
   ·unfold Lib.trimS
    rw [Lib.trimRightS_take _ [32, 9] z (by omega) h6 (fun b _ hb => h7' b hb)]
    rw [Lib.trimLeftS_drop _ [32, 9] y (by rw [List.length_take]; omega) (fun j b hj hb => h4 j b hj (by rw [htk j (by omega)] at hb; exact hb)) (fun b hb => h5' b (by rw [htk y (by omega)] at hb; exact hb))]
   ·refine ⟨fun b hb => ?_, fun b h0 hb => ?_⟩
    ·rw [List.getElem?_drop, Nat.add_zero, htk y (by omega)] at hb
     exact h5' b hb
    ·rw [List.length_drop, List.length_take, List.getElem?_drop, htk _ (by omega)] at hb
     rw [show y + (min z s.data.toList.length - y - 1) = z - 1 from by omega] at hb
     exact h7' b hb
 rw [hx]
 refine ⟨?_, key.2⟩
 apply ByteArray.ext
 apply Array.ext'
 rw [hx, ← key.1]
theorem has_loop (s : ByteArray) (hs : s.size ≤ 9223372036854775807) (c : Int) (d : Nat) : ∀ i : Nat, i + d = s.size → Ev (fun k => r01_Has.l0 k s c (i : Int)) (((bytesOf s).drop i).any (· == c)) := by
 induction d with
 | zero =>
  intro i hi
  rw [List.drop_of_length_le (by rw [bytesOf_length]; omega)]
  exact Ev.step (fun k => r01_Has.l0.eq_2 ..) (ev_neg (by omega) (ev_now rfl))
 | succ d ih =>
  intro i hi
  have e : wrap64 ((i : Int) + 1) = ((i + 1 : Nat) : Int) := by unfold wrap64; omega
  refine Ev.step (fun k => r01_Has.l0.eq_2 ..) (ev_pos (by omega) (ev_pos (by omega) ?_))
  rw [e, bytesOf_drop s i (by omega), List.any_cons]
  by_cases a : bt s i = c
  ·rw [beq_iff_eq.2 a, Bool.true_or]
   exact ev_pos a (ev_now rfl)
  ·rw [beq_eq_false_iff_ne.2 a, Bool.false_or]
   exact ev_neg a (ih (i + 1) (by omega))
theorem has_ev (s : ByteArray) (hs : s.size ≤ 9223372036854775807) (c : Int) : Ev (fun k => r01_Has.f k s c) ((bytesOf s).any (· == c)) := by
 have := has_loop s hs c s.size 0 (by omega)
 rw [List.drop_zero] at this
 exact this
def hasM (c : Int) : Bool := (bytesOf marksS).any (· == c)
theorem hasM_all : ∀ c : Nat, c < 256 → (if c < 128 then decide (0 ≤ Lib.indexByte marksS.data.toList c.toUInt8) else false) = hasM (c : Int) := by decide +kernel
theorem hasM_eq (c : Int) (h0 : 0 ≤ c) (h1 : c ≤ 255) : (if c < 128 then decide (0 ≤ Lib.indexByte marksS.data.toList c.toNat.toUInt8) else false) = hasM c := by
 obtain ⟨n, rfl⟩ := Int.eq_ofNat_of_zero_le h0
 rw [← hasM_all n (by omega)]
 by_cases a : n < 128
 ·rw [if_pos a, if_pos (by omega)]; rfl
 ·rw [if_neg a, if_neg (by omega)]
theorem tokenB_eq (c : Int) (h0 : 0 ≤ c) (h1 : c ≤ 255) : tokenB c = (decide ((97 ≤ c ∧ c ≤ 122) ∨ (65 ≤ c ∧ c ≤ 90) ∨ (48 ≤ c ∧ c ≤ 57)) || hasM c) := by
 unfold tokenB; rw [hasM_eq c h0 h1]
theorem refToken_loop (s : ByteArray) (hs : s.size ≤ 9223372036854775807) (d : Nat) : ∀ i : Nat, i + d = s.size → Ev (fun k => r01_Token.l0 k s (i : Int)) (((bytesOf s).drop i).all tokenB && decide (0 < s.size)) := by
 induction d with
 | zero =>
  intro i hi
  rw [List.drop_of_length_le (by rw [bytesOf_length]; omega)]
  refine Ev.step (fun k => r01_Token.l0.eq_2 ..) (ev_neg (by omega) (ev_now ?_))
  rw [List.all_nil, Bool.true_and, decide_eq_decide]
  omega
 | succ d ih =>
  intro i hi
  have e : wrap64 ((i : Int) + 1) = ((i + 1 : Nat) : Int) := by unfold wrap64; omega
  have hr := bt_range s i
  have hk := ih (i + 1) (by omega)
  have hm := has_ev marksS (by decide) (bt s i)
  refine Ev.step (fun k => r01_Token.l0.eq_2 ..) (ev_pos (by omega) (ev_pos (by omega) ?_))
  rw [e, bytesOf_drop s i (by omega), List.all_cons, tokenB_eq _ hr.1 hr.2]
  change Ev (fun k => r01_Has.f k marksS (bt s i)) (hasM (bt s i)) at hm
  generalize hasM (bt s i) = m at hm
  generalize hc : bt s i = c at *
  have yes : ((97 ≤ c ∧ c ≤ 122) ∨ (65 ≤ c ∧ c ≤ 90) ∨ (48 ≤ c ∧ c ≤ 57)) → Ev (fun k => r01_Token.l0 k s ((i + 1 : Nat) : Int)) (((decide ((97 ≤ c ∧ c ≤ 122) ∨ (65 ≤ c ∧ c ≤ 90) ∨ (48 ≤ c ∧ c ≤ 57)) || m) && ((bytesOf s).drop (i + 1)).all tokenB) && decide (0 < s.size)) := by
   intro h
   rw [decide_eq_true h, Bool.true_or, Bool.true_and]
   exact hk
  have mark : ¬ ((97 ≤ c ∧ c ≤ 122) ∨ (65 ≤ c ∧ c ≤ 90) ∨ (48 ≤ c ∧ c ≤ 57)) → Ev (fun k => if m = true then r01_Token.l0 k s ((i + 1 : Nat) : Int) else some false) (((decide ((97 ≤ c ∧ c ≤ 122) ∨ (65 ≤ c ∧ c ≤ 90) ∨ (48 ≤ c ∧ c ≤ 57)) || m) && ((bytesOf s).drop (i + 1)).all tokenB) && decide (0 < s.size)) := by
   intro h
   rw [decide_eq_false h, Bool.false_or]
   cases m with
   | true => rw [Bool.true_and]; exact ev_true hk
   | false => exact ev_false (ev_now rfl)
  have digit : ¬ ((97 ≤ c ∧ c ≤ 122) ∨ (65 ≤ c ∧ c ≤ 90)) → Ev (fun k => if c ≥ 48 then (if c ≤ 57 then r01_Token.l0 k s ((i + 1 : Nat) : Int) else (if m = true then r01_Token.l0 k s ((i + 1 : Nat) : Int) else some false)) else (if m = true then r01_Token.l0 k s ((i + 1 : Nat) : Int) else some false)) (((decide ((97 ≤ c ∧ c ≤ 122) ∨ (65 ≤ c ∧ c ≤ 90) ∨ (48 ≤ c ∧ c ≤ 57)) || m) && ((bytesOf s).drop (i + 1)).all tokenB) && decide (0 < s.size)) := by
   intro h
   by_cases a : c ≥ 48
   ·refine ev_pos a ?_
    by_cases b : c ≤ 57
    ·exact ev_pos b (yes (by omega))
    ·exact ev_neg b (mark (by omega))
   ·exact ev_neg a (mark (by omega))
  by_cases a : c ≥ 97
  ·refine ev_pos a ?_
   by_cases b : c ≤ 122
   ·exact ev_pos b (Ev.bind hm (yes (by omega)))
   ·exact ev_neg b (ev_pos (by omega) (Ev.bind hm (ev_neg (by omega) (digit (by omega)))))
  ·refine ev_neg a ?_
   by_cases b : c ≥ 65
   ·refine ev_pos b (Ev.bind hm ?_)
    by_cases f : c ≤ 90
    ·exact ev_pos f (yes (by omega))
    ·exact ev_neg f (digit (by omega))
   ·exact ev_neg b (Ev.bind hm (digit (by omega)))
theorem refToken_ev (s : ByteArray) (hs : s.size ≤ 9223372036854775807) : Ev (fun k => r01_Token.f k s) ((bytesOf s).all tokenB && decide (0 < s.size)) := by
 have := refToken_loop s hs s.size 0 (by omega)
 rw [List.drop_zero] at this
 exact this
theorem rdH_at (l : List S25) (i : Nat) (h : i < l.length) : rd_T25 l (i : Int) = l[i] := by
 unfold rd_T25
 rw [Int.toNat_natCast, List.getD_eq_getElem?_getD, List.getElem?_eq_getElem h]
 rfl
def trimB (s : ByteArray) : ByteArray := ⟨(Lib.trimS s.data.toList [32, 9]).toArray⟩
theorem refTrim_ev (s : ByteArray) (hs : s.size ≤ 9223372036854775807) : Ev (fun q => r01_Trim.f q s) (trimB s) ∧ (trimB s).size ≤ s.size := by
 obtain ⟨t, h1, h2, h3, _⟩ := trim_all s hs
 unfold trimB
 rw [h3]
 exact ⟨h2, h1⟩
def okB (c : Int) : Bool := decide (c = 9 ∨ (32 ≤ c ∧ c ≤ 126))
theorem refShown_loop (s : ByteArray) (hs : s.size ≤ 9223372036854775807) (d : Nat) : ∀ i : Nat, i + d = s.size → Ev (fun k => r14_shown.l0 k s (i : Int)) (((bytesOf s).drop i).all okB) := by
 induction d with
 | zero =>
  intro i hi
  rw [List.drop_of_length_le (by rw [bytesOf_length]; omega)]
  exact Ev.step (fun k => r14_shown.l0.eq_2 ..) (ev_neg (by omega) (ev_now rfl))
 | succ d ih =>
  intro i hi
  have e : wrap64 ((i : Int) + 1) = ((i + 1 : Nat) : Int) := by unfold wrap64; omega
  refine Ev.step (fun k => r14_shown.l0.eq_2 ..) (ev_pos (by omega) (ev_pos (by omega) ?_))
  rw [e, bytesOf_drop s i (by omega), List.all_cons]
  by_cases a : bt s i < 32
  ·refine ev_pos a ?_
   by_cases b : bt s i = 9
   ·have : okB (bt s i) = true := by unfold okB; rw [decide_eq_true (by omega)]
    rw [this, Bool.true_and]
    exact ev_pos b (ih (i + 1) (by omega))
   ·have : okB (bt s i) = false := by unfold okB; rw [decide_eq_false (by omega)]
    rw [this]
    exact ev_neg b (ev_now rfl)
  ·refine ev_neg a ?_
   by_cases b : bt s i > 126
   ·have : okB (bt s i) = false := by unfold okB; rw [decide_eq_false (by omega)]
    rw [this]
    exact ev_pos b (ev_neg (by omega) (ev_now rfl))
   ·have : okB (bt s i) = true := by unfold okB; rw [decide_eq_true (by omega)]
    rw [this, Bool.true_and]
    exact ev_neg b (ih (i + 1) (by omega))
theorem refShown_ev (s : ByteArray) (hs : s.size ≤ 9223372036854775807) : Ev (fun k => r14_shown.f k s) ((bytesOf s).all okB) := by
 have h := refShown_loop s hs s.size 0 (by omega)
 rw [List.drop_zero] at h
 exact h
def tokB (s : ByteArray) : Bool := (bytesOf s).all tokenB && decide (0 < s.size)
def bareB (s : ByteArray) : Bool := (trimB s).toList == s.toList
def headerB (h : S25) : Bool := tokB h.f0 && ((bytesOf h.f1).all okB && bareB h.f1)
theorem refHeader_ev (h : S25) (h0 : h.f0.size ≤ 9223372036854775807) (h1 : h.f1.size ≤ 9223372036854775807) : Ev (fun k => r14_Header.f k h.f0 h.f1) (headerB h) := by
 unfold r14_Header.f headerB
 refine Ev.bind (refToken_ev h.f0 h0) (Ev.bind (refShown_ev h.f1 h1) ?_)
 show Ev (fun k => if tokB h.f0 = true then _ else _) _
 cases tokB h.f0 with
 | false => exact ev_false (ev_now rfl)
 | true =>
  refine ev_true ?_
  cases (bytesOf h.f1).all okB with
  | false => exact ev_false (ev_now rfl)
  | true => exact ev_true (Ev.bind (refTrim_ev h.f1 h1).1 (ev_now rfl))
def Hs (l : List S25) : Prop := ∀ h ∈ l, h.f0.size ≤ 1000 ∧ h.f1.size ≤ 1000
theorem Hs.tail {h : S25} {l : List S25} (hh : Hs (h :: l)) : Hs l := fun x hx => hh x (List.mem_cons_of_mem _ hx)
def lineB (h : S25) : ByteArray := h.f0 ++ (⟨#[58, 32]⟩ : ByteArray) ++ h.f1 ++ (⟨#[13, 10]⟩ : ByteArray)
def linesB : List S25 → ByteArray
 | [] => ⟨#[]⟩
 | h :: l => lineB h ++ linesB l
theorem linesB_snoc : ∀ (l : List S25) (h : S25), linesB (l ++ [h]) = linesB l ++ lineB h
 | [], h => by
  show lineB h ++ (⟨#[]⟩ : ByteArray) = (⟨#[]⟩ : ByteArray) ++ lineB h
  apply ByteArray.ext
  simp
 | x :: l, h => by
  show lineB x ++ linesB (l ++ [h]) = lineB x ++ linesB l ++ lineB h
  rw [linesB_snoc l h, ByteArray.append_assoc]
def smallH (h : S25) : Bool := decide (h.f0.size ≤ 100000) && decide (h.f1.size ≤ 100000)
theorem lineB_size (h : S25) (hs : smallH h = true) : (lineB h).size ≤ 200004 := by
 unfold smallH at hs
 simp only [Bool.and_eq_true, decide_eq_true_iff] at hs
 unfold lineB
 rw [ByteArray.size_append, ByteArray.size_append, ByteArray.size_append]
 have z2 : (⟨#[58, 32]⟩ : ByteArray).size = 2 := rfl
 have z3 : (⟨#[13, 10]⟩ : ByteArray).size = 2 := rfl
 omega
theorem linesB_size : ∀ l : List S25, l.all smallH = true → (linesB l).size ≤ 200004 * l.length
 | [], _ => Nat.zero_le _
 | h :: l, hs => by
  rw [List.all_cons, Bool.and_eq_true] at hs
  have h1 := lineB_size h hs.1
  have h2 := linesB_size l hs.2
  show (lineB h ++ linesB l).size ≤ _
  rw [ByteArray.size_append, List.length_cons]
  omega
theorem all_take (l : List S25) (i : Nat) (h : l.all smallH = true) : (l.take i).all smallH = true := by
 rw [List.all_eq_true] at h ⊢
 exact fun x hx => h x (List.mem_of_mem_take hx)
theorem hs_small (l : List S25) (hh : Hs l) : l.all smallH = true := by
 rw [List.all_eq_true]
 intro x hx
 have := hh x hx
 unfold smallH
 rw [decide_eq_true (by omega), decide_eq_true (by omega)]
 rfl
def crlf : ByteArray := ⟨#[13, 10]⟩
theorem refLines_loop (l : List S25) (hl : l.length ≤ 1000) (hh : Hs l) (d : Nat) : ∀ i : Nat, i + d = l.length → Ev (fun k => r14_Lines.l0 k l (linesB (l.take i)) (i : Int)) (linesB l ++ crlf) := by
 induction d with
 | zero =>
  intro i hi
  have hz := linesB_size l (hs_small l hh)
  rw [List.take_of_length_le (by omega)]
  exact Ev.step (fun k => r14_Lines.l0.eq_2 ..) (ev_neg (by omega) (ev_pos (by omega) (ev_now rfl)))
 | succ d ih =>
  intro i hi
  have hlt : i < l.length := by omega
  have e : wrap64 ((i : Int) + 1) = ((i + 1 : Nat) : Int) := by unfold wrap64; omega
  have hz := linesB_size (l.take i) (all_take l i (hs_small l hh))
  rw [List.length_take] at hz
  have hs := hh _ (List.getElem_mem hlt)
  have z2 : (⟨#[58, 32]⟩ : ByteArray).size = 2 := rfl
  have hn := ih (i + 1) (by omega)
  have hnext : linesB (l.take (i + 1)) = linesB (l.take i) ++ l[i].f0 ++ (⟨#[58, 32]⟩ : ByteArray) ++ l[i].f1 ++ (⟨#[13, 10]⟩ : ByteArray) := by
   rw [List.take_add_one, List.getElem?_eq_getElem hlt]
   show linesB (l.take i ++ [l[i]]) = _
   rw [linesB_snoc]
   unfold lineB
   simp only [ByteArray.append_assoc]
  rw [hnext] at hn
  refine Ev.step (fun k => r14_Lines.l0.eq_2 ..) (ev_pos (by omega) (ev_pos (by omega) ?_))
  rw [rdH_at l i hlt, e]
  refine ev_pos (by omega) (ev_pos (by rw [ByteArray.size_append]; omega) (ev_pos (by rw [ByteArray.size_append, ByteArray.size_append]; omega) (ev_pos (by rw [ByteArray.size_append, ByteArray.size_append, ByteArray.size_append]; omega) hn)))
theorem refLines_ev (l : List S25) (hl : l.length ≤ 1000) (hh : Hs l) : Ev (fun k => r14_Lines.f k l) (linesB l ++ crlf) := refLines_loop l hl hh l.length 0 (by omega)
end Go.Proofs.YthjhbhgfckaklaaDoor.P
end
