/-
  One text out of: PhD, PlQ, PlR, PlS, PureHeadWrites.
-/
import Derived.Test.YthjhbhgfckaklabDoorPhC
import Derived.Test.YthjhbhgfckaklabDoorTextG
import Derived.Test.YthjhbhgfckaklabDoorPR4
import Derived.Test.YthjhbhgfckaklabDoorPR6
import Derived.Test.YthjhbhgfckaklabDoorHeadM
import Derived.Test.YthjhbhgfckaklabDoorPR7
import Derived.Test.YthjhbhgfckaklabDoorPE21
import Derived.Test.YthjhbhgfckaklabDoorHeadL
section
namespace Go.Proofs.YthjhbhgfckaklabDoor.P
open Go.RowKit Go.Proofs.YthjhbhgfckaklabDoorW.PrintWords Go.Proofs.YthjhbhgfckaklabDoorW.PrintLast Go.Proofs.YthjhbhgfckaklabDoorW.PrintMore
set_option linter.unusedVariables false
set_option linter.unusedSimpArgs false

theorem allFrom_bytes (p : Int → Bool) (hp : ∀ c : Int, 128 ≤ c → p c = false) (s : ByteArray) (d : Nat) : ∀ pos f, pos + d = s.size → d ≤ f → allFrom p s f pos = ((bytesOf s).drop pos).all p := by
  induction d with
  | zero =>
    intro pos f h hf
    rw [allFrom_end p s f pos (by omega), List.drop_of_length_le (by rw [bytesOf_length]; omega)]
    rfl
  | succ d ih =>
    intro pos f h hf
    have hlt : pos < s.size := by omega
    obtain ⟨f, rfl⟩ : ∃ g, f = g + 1 := ⟨f - 1, by omega⟩
    rw [bytesOf_drop s pos hlt, List.all_cons]
    by_cases hb : (s[pos]'hlt).toNat < 128
    · have hd := decode_ascii s pos hlt hb
      have h1 : ((Utf8.decode s pos).1 : Int) = bt s pos := by rw [hd, bt_get s pos hlt]
      have h2 : (Utf8.decode s pos).2 = 1 := by rw [hd]
      cases hx : p (bt s pos) with
      | true => rw [allFrom_yes p s f pos hlt (by rw [h1]; exact hx), h2, ih (pos + 1) f (by omega) (by omega)]; rfl
      | false => rw [allFrom_no p s f pos hlt (by rw [h1]; exact hx)]; rfl
    · have hh := (decode_high s pos hlt (by omega)).1
      rw [allFrom_no p s f pos hlt (hp _ (by omega)), hp (bt s pos) (by rw [bt_get s pos hlt]; omega)]
      rfl
theorem allFrom_all (p : Int → Bool) (hp : ∀ c : Int, 128 ≤ c → p c = false) (s : ByteArray) : allFrom p s s.size 0 = (bytesOf s).all p := by
  rw [allFrom_bytes p hp s s.size 0 s.size (by omega) (by omega), List.drop_zero]
theorem plainB_high (c : Int) (h : 128 ≤ c) : plainB c = false := by unfold plainB; rw [decide_eq_false (by omega)]
theorem tokenB_high (c : Int) (h : 128 ≤ c) : tokenB c = false := by
  unfold tokenB; rw [decide_eq_false (by omega), if_neg (by omega)]; rfl
theorem refPlain_loop (s : ByteArray) (hs : s.size ≤ 1000) (d : Nat) : ∀ i : Nat, i + d = s.size → Ev (fun k => abatisref01_Plain.l0 k s (i : Int)) (((bytesOf s).drop i).all plainB) := by
  induction d with
  | zero =>
    intro i hi
    rw [List.drop_of_length_le (by rw [bytesOf_length]; omega)]
    exact Ev.step (fun k => abatisref01_Plain.l0.eq_2 ..) (ev_neg (by omega) (ev_now rfl))
  | succ d ih =>
    intro i hi
    have e : wrap64 ((i : Int) + 1) = ((i + 1 : Nat) : Int) := by unfold wrap64; omega
    refine Ev.step (fun k => abatisref01_Plain.l0.eq_2 ..) (ev_pos (by omega) (ev_pos (by omega) ?_))
    rw [e, bytesOf_drop s i (by omega), List.all_cons]
    by_cases a : bt s i < 33
    · have : plainB (bt s i) = false := by unfold plainB; rw [decide_eq_false (by omega)]
      rw [this]
      exact ev_pos a (ev_now rfl)
    · refine ev_neg a ?_
      by_cases b : bt s i > 126
      · have : plainB (bt s i) = false := by unfold plainB; rw [decide_eq_false (by omega)]
        rw [this]
        exact ev_pos b (ev_now rfl)
      · have : plainB (bt s i) = true := by unfold plainB; rw [decide_eq_true (by omega)]
        rw [this, Bool.true_and]
        exact ev_neg b (ih (i + 1) (by omega))
theorem refPlain_ev (s : ByteArray) (hs : s.size ≤ 1000) : Ev (fun k => abatisref01_Plain.f k s) ((bytesOf s).all plainB) := by
  have := refPlain_loop s hs s.size 0 (by omega)
  rw [List.drop_zero] at this
  exact this
def hasM (c : Int) : Bool := (bytesOf marksS).any (· == c)
theorem hasM_all : ∀ c : Nat, c < 256 → (if c < 128 then decide (0 ≤ Lib.indexByte marksS.data.toList c.toUInt8) else false) = hasM (c : Int) := by decide +kernel
theorem hasM_eq (c : Int) (h0 : 0 ≤ c) (h1 : c ≤ 255) : (if c < 128 then decide (0 ≤ Lib.indexByte marksS.data.toList c.toNat.toUInt8) else false) = hasM c := by
  obtain ⟨n, rfl⟩ := Int.eq_ofNat_of_zero_le h0
  rw [← hasM_all n (by omega)]
  by_cases a : n < 128
  · rw [if_pos a, if_pos (by omega)]; rfl
  · rw [if_neg a, if_neg (by omega)]
theorem tokenB_eq (c : Int) (h0 : 0 ≤ c) (h1 : c ≤ 255) : tokenB c = (decide ((97 ≤ c ∧ c ≤ 122) ∨ (65 ≤ c ∧ c ≤ 90) ∨ (48 ≤ c ∧ c ≤ 57)) || hasM c) := by
  unfold tokenB; rw [hasM_eq c h0 h1]
theorem refToken_loop (s : ByteArray) (hs : s.size ≤ 1000) (d : Nat) : ∀ i : Nat, i + d = s.size → Ev (fun k => abatisref01_Token.l0 k s (i : Int)) (((bytesOf s).drop i).all tokenB && decide (0 < s.size)) := by
  induction d with
  | zero =>
    intro i hi
    rw [List.drop_of_length_le (by rw [bytesOf_length]; omega)]
    refine Ev.step (fun k => abatisref01_Token.l0.eq_2 ..) (ev_neg (by omega) (ev_now ?_))
    rw [List.all_nil, Bool.true_and, decide_eq_decide]
    omega
  | succ d ih =>
    intro i hi
    have e : wrap64 ((i : Int) + 1) = ((i + 1 : Nat) : Int) := by unfold wrap64; omega
    have hr := bt_range s i
    have hk := ih (i + 1) (by omega)
    have hm := has_ev marksS (by decide) (bt s i)
    refine Ev.step (fun k => abatisref01_Token.l0.eq_2 ..) (ev_pos (by omega) (ev_pos (by omega) ?_))
    rw [e, bytesOf_drop s i (by omega), List.all_cons, tokenB_eq _ hr.1 hr.2]
    change Ev (fun k => abatisref01_Has.f k marksS (bt s i)) (hasM (bt s i)) at hm
    generalize hasM (bt s i) = m at hm
    generalize hc : bt s i = c at *
    have yes : ((97 ≤ c ∧ c ≤ 122) ∨ (65 ≤ c ∧ c ≤ 90) ∨ (48 ≤ c ∧ c ≤ 57)) → Ev (fun k => abatisref01_Token.l0 k s ((i + 1 : Nat) : Int)) (((decide ((97 ≤ c ∧ c ≤ 122) ∨ (65 ≤ c ∧ c ≤ 90) ∨ (48 ≤ c ∧ c ≤ 57)) || m) && ((bytesOf s).drop (i + 1)).all tokenB) && decide (0 < s.size)) := by
      intro h
      rw [decide_eq_true h, Bool.true_or, Bool.true_and]
      exact hk
    have mark : ¬ ((97 ≤ c ∧ c ≤ 122) ∨ (65 ≤ c ∧ c ≤ 90) ∨ (48 ≤ c ∧ c ≤ 57)) → Ev (fun k => if m = true then abatisref01_Token.l0 k s ((i + 1 : Nat) : Int) else some false) (((decide ((97 ≤ c ∧ c ≤ 122) ∨ (65 ≤ c ∧ c ≤ 90) ∨ (48 ≤ c ∧ c ≤ 57)) || m) && ((bytesOf s).drop (i + 1)).all tokenB) && decide (0 < s.size)) := by
      intro h
      rw [decide_eq_false h, Bool.false_or]
      cases m with
      | true => rw [Bool.true_and]; exact ev_true hk
      | false => exact ev_false (ev_now rfl)
    have digit : ¬ ((97 ≤ c ∧ c ≤ 122) ∨ (65 ≤ c ∧ c ≤ 90)) → Ev (fun k => if c ≥ 48 then (if c ≤ 57 then abatisref01_Token.l0 k s ((i + 1 : Nat) : Int) else (if m = true then abatisref01_Token.l0 k s ((i + 1 : Nat) : Int) else some false)) else (if m = true then abatisref01_Token.l0 k s ((i + 1 : Nat) : Int) else some false)) (((decide ((97 ≤ c ∧ c ≤ 122) ∨ (65 ≤ c ∧ c ≤ 90) ∨ (48 ≤ c ∧ c ≤ 57)) || m) && ((bytesOf s).drop (i + 1)).all tokenB) && decide (0 < s.size)) := by
      intro h
      by_cases a : c ≥ 48
      · refine ev_pos a ?_
        by_cases b : c ≤ 57
        · exact ev_pos b (yes (by omega))
        · exact ev_neg b (mark (by omega))
      · exact ev_neg a (mark (by omega))
    by_cases a : c ≥ 97
    · refine ev_pos a ?_
      by_cases b : c ≤ 122
      · exact ev_pos b (Ev.bind hm (yes (by omega)))
      · exact ev_neg b (ev_pos (by omega) (Ev.bind hm (ev_neg (by omega) (digit (by omega)))))
    · refine ev_neg a ?_
      by_cases b : c ≥ 65
      · refine ev_pos b (Ev.bind hm ?_)
        by_cases f : c ≤ 90
        · exact ev_pos f (yes (by omega))
        · exact ev_neg f (digit (by omega))
      · exact ev_neg b (Ev.bind hm (digit (by omega)))
theorem refToken_ev (s : ByteArray) (hs : s.size ≤ 1000) : Ev (fun k => abatisref01_Token.f k s) ((bytesOf s).all tokenB && decide (0 < s.size)) := by
  have := refToken_loop s hs s.size 0 (by omega)
  rw [List.drop_zero] at this
  exact this
end Go.Proofs.YthjhbhgfckaklabDoor.P
end
section
namespace Go.Proofs.YthjhbhgfckaklabDoor.P
open Go.RowKit Go.Proofs.YthjhbhgfckaklabDoorW.PrintWords Go.Proofs.YthjhbhgfckaklabDoorW.PrintLast Go.Proofs.YthjhbhgfckaklabDoorW.PrintMore
set_option linter.unusedVariables false
set_option linter.unusedSimpArgs false

/-! ### shown -/
def okB (c : Int) : Bool := decide (c = 9 ∨ (32 ≤ c ∧ c ≤ 126))
theorem okB_nat (n : Nat) : okB (n : Int) = !oddN n := by
  unfold okB oddN
  rw [Bool.eq_iff_iff]
  simp
  omega
theorem oddN_high (n : Nat) (h : 128 ≤ n) : oddN n = true := by
  unfold oddN
  rw [decide_eq_true (p := 126 < n) (by omega), decide_eq_true (p := n ≠ 9) (by omega)]
  simp
theorem shown_bytes (s : ByteArray) (d : Nat) : ∀ pos f, pos + d = s.size → d ≤ f → decide (0 ≤ Lib.idxFuncFrom oddN true s f pos) = !(((bytesOf s).drop pos).all okB) := by
  induction d with
  | zero =>
    intro pos f h hf
    rw [Lib.idxFuncFrom_end oddN true s f pos (by omega), List.drop_of_length_le (by rw [bytesOf_length]; omega)]
    rfl
  | succ d ih =>
    intro pos f h hf
    have hlt : pos < s.size := by omega
    obtain ⟨f, rfl⟩ : ∃ g, f = g + 1 := ⟨f - 1, by omega⟩
    rw [bytesOf_drop s pos hlt, List.all_cons]
    have e1 : Lib.idxFuncFrom oddN true s (f + 1) pos = if oddN (Utf8.decode s pos).1 = true then (pos : Int) else Lib.idxFuncFrom oddN true s f (pos + (Utf8.decode s pos).2) := by
      conv => lhs; unfold Lib.idxFuncFrom
      rw [if_pos hlt]
    rw [e1]
    by_cases hb : (s[pos]'hlt).toNat < 128
    · have hd := decode_ascii s pos hlt hb
      have h1 : bt s pos = (((s[pos]'hlt).toNat : Nat) : Int) := bt_get s pos hlt
      rw [hd, h1, okB_nat]
      cases hx : oddN (s[pos]'hlt).toNat with
      | true => rw [if_pos rfl, decide_eq_true (by omega)]; rfl
      | false =>
        rw [if_neg (by decide), ih (pos + 1) f (by omega) (by omega)]
        rfl
    · have hh := (decode_high s pos hlt (by omega)).1
      rw [if_pos (oddN_high _ (by omega)), decide_eq_true (by omega)]
      have h1 : bt s pos = (((s[pos]'hlt).toNat : Nat) : Int) := bt_get s pos hlt
      rw [h1, okB_nat, oddN_high _ (by omega)]
      rfl
theorem shown_eq (s : ByteArray) : head_shown.f s = some ((bytesOf s).all okB) := by
  unfold head_shown.f Lib.idxFunc
  rw [shown_bytes s s.size 0 s.size (by omega) (Nat.le_refl _), List.drop_zero, Bool.not_not]
theorem refShown_loop (s : ByteArray) (hs : s.size ≤ 1000) (d : Nat) : ∀ i : Nat, i + d = s.size → Ev (fun k => abatisref14_shown.l0 k s (i : Int)) (((bytesOf s).drop i).all okB) := by
  induction d with
  | zero =>
    intro i hi
    rw [List.drop_of_length_le (by rw [bytesOf_length]; omega)]
    exact Ev.step (fun k => abatisref14_shown.l0.eq_2 ..) (ev_neg (by omega) (ev_now rfl))
  | succ d ih =>
    intro i hi
    have e : wrap64 ((i : Int) + 1) = ((i + 1 : Nat) : Int) := by unfold wrap64; omega
    refine Ev.step (fun k => abatisref14_shown.l0.eq_2 ..) (ev_pos (by omega) (ev_pos (by omega) ?_))
    rw [e, bytesOf_drop s i (by omega), List.all_cons]
    by_cases a : bt s i < 32
    · refine ev_pos a ?_
      by_cases b : bt s i = 9
      · have : okB (bt s i) = true := by unfold okB; rw [decide_eq_true (by omega)]
        rw [this, Bool.true_and]
        exact ev_pos b (ih (i + 1) (by omega))
      · have : okB (bt s i) = false := by unfold okB; rw [decide_eq_false (by omega)]
        rw [this]
        exact ev_neg b (ev_now rfl)
    · refine ev_neg a ?_
      by_cases b : bt s i > 126
      · have : okB (bt s i) = false := by unfold okB; rw [decide_eq_false (by omega)]
        rw [this]
        exact ev_pos b (ev_neg (by omega) (ev_now rfl))
      · have : okB (bt s i) = true := by unfold okB; rw [decide_eq_true (by omega)]
        rw [this, Bool.true_and]
        exact ev_neg b (ih (i + 1) (by omega))
theorem refShown_ev (s : ByteArray) (hs : s.size ≤ 1000) : Ev (fun k => abatisref14_shown.f k s) ((bytesOf s).all okB) := by
  have h := refShown_loop s hs s.size 0 (by omega)
  rw [List.drop_zero] at h
  exact h

/-! ### headers -/
def tokB (s : ByteArray) : Bool := (bytesOf s).all tokenB && decide (0 < s.size)
theorem Token_eq (s : ByteArray) : text_Token.f s = some (tokB s) := by
  unfold text_Token.f tokB
  rw [allFrom_all tokenB tokenB_high, Bool.and_comm]
theorem Plain_eq (s : ByteArray) : text_Plain.f s = some ((bytesOf s).all plainB) := by
  unfold text_Plain.f
  rw [allFrom_all plainB plainB_high]
def bareB (s : ByteArray) : Bool := (trimB s).toList == s.toList
def headerB (h : S26) : Bool := tokB h.f0 && ((bytesOf h.f1).all okB && bareB h.f1)
theorem header_eq (h : S26) (h1 : h.f1.size ≤ 1000) : head_header.f h.f0 h.f1 = some (headerB h) := by
  unfold head_header.f headerB
  rw [Token_eq, shown_eq, trimB_eq h.f1 h1]
  cases tokB h.f0 with
  | false => rfl
  | true =>
    cases (bytesOf h.f1).all okB with
    | false => rfl
    | true => rfl
theorem refHeader_ev (h : S26) (h0 : h.f0.size ≤ 1000) (h1 : h.f1.size ≤ 1000) : Ev (fun k => abatisref14_Header.f k h.f0 h.f1) (headerB h) := by
  unfold abatisref14_Header.f headerB
  refine Ev.bind (refToken_ev h.f0 h0) (Ev.bind (refShown_ev h.f1 h1) ?_)
  show Ev (fun k => if tokB h.f0 = true then _ else _) _
  cases tokB h.f0 with
  | false => exact ev_false (ev_now rfl)
  | true =>
    refine ev_true ?_
    cases (bytesOf h.f1).all okB with
    | false => exact ev_false (ev_now rfl)
    | true => exact ev_true (Ev.bind (refTrim_ev h.f1 h1).1 (ev_now rfl))
theorem odd_eq : ∀ (l : List S26) (i : Nat), Hs l → ∃ r, oddFrom l (i : Int) = some r ∧ decide (0 ≤ r) = !(l.all headerB)
  | [], i, _ => ⟨-1, rfl, rfl⟩
  | x :: l, i, hh => by
    obtain ⟨r, h1, h2⟩ := odd_eq l (i + 1) hh.tail
    unfold oddFrom
    rw [header_eq x (hh x List.mem_cons_self).2, List.all_cons]
    cases c : headerB x with
    | true => exact ⟨r, h1, h2⟩
    | false => exact ⟨i, rfl, decide_eq_true (by omega)⟩

/-! ### texts -/
theorem hs_small (l : List S26) (hh : Hs l) : l.all smallH = true := by
  rw [List.all_eq_true]
  intro x hx
  have := hh x hx
  unfold smallH
  rw [decide_eq_true (by omega), decide_eq_true (by omega)]
  rfl
def crlf : ByteArray := ⟨#[13, 10]⟩
theorem Lines_eq (l : List S26) (hl : l.length ≤ 1000) (hh : Hs l) : head_lines.f l = some (linesB l ++ crlf) := by
  unfold head_lines.f
  rw [if_pos ⟨by omega, hs_small l hh⟩]
  rfl
theorem refLines_loop (l : List S26) (hl : l.length ≤ 1000) (hh : Hs l) (d : Nat) : ∀ i : Nat, i + d = l.length → Ev (fun k => abatisref14_Lines.l0 k l (linesB (l.take i)) (i : Int)) (linesB l ++ crlf) := by
  induction d with
  | zero =>
    intro i hi
    have hz := linesB_size l (hs_small l hh)
    rw [List.take_of_length_le (by omega)]
    exact Ev.step (fun k => abatisref14_Lines.l0.eq_2 ..) (ev_neg (by omega) (ev_pos (by omega) (ev_now rfl)))
  | succ d ih =>
    intro i hi
    have hlt : i < l.length := by omega
    have e : wrap64 ((i : Int) + 1) = ((i + 1 : Nat) : Int) := by unfold wrap64; omega
    have hz := linesB_size (l.take i) (all_take l i (hs_small l hh))
    rw [List.length_take] at hz
    have hs := hh _ (List.getElem_mem hlt)
    have z2 : (⟨#[58, 32]⟩ : ByteArray).size = 2 := rfl
    have hn := ih (i + 1) (by omega)
    have hnext : linesB (l.take (i + 1)) = linesB (l.take i) ++ l[i].f0 ++ (⟨#[58, 32]⟩ : ByteArray) ++ l[i].f1 ++ (⟨#[13, 10]⟩ : ByteArray) := by
      rw [List.take_add_one, List.getElem?_eq_getElem hlt]
      show linesB (l.take i ++ [l[i]]) = _
      rw [linesB_snoc]
      unfold lineB
      simp only [ByteArray.append_assoc]
    rw [hnext] at hn
    refine Ev.step (fun k => abatisref14_Lines.l0.eq_2 ..) (ev_pos (by omega) (ev_pos (by omega) ?_))
    rw [rdH_at l i hlt, e]
    refine ev_pos (by omega) (ev_pos (by rw [ByteArray.size_append]; omega) (ev_pos (by rw [ByteArray.size_append, ByteArray.size_append]; omega) (ev_pos (by rw [ByteArray.size_append, ByteArray.size_append, ByteArray.size_append]; omega) hn)))
theorem refLines_ev (l : List S26) (hl : l.length ≤ 1000) (hh : Hs l) : Ev (fun k => abatisref14_Lines.f k l) (linesB l ++ crlf) := refLines_loop l hl hh l.length 0 (by omega)
def wholeB (m p : ByteArray) (l : List S26) : ByteArray := m ++ (⟨#[32]⟩ : ByteArray) ++ p ++ (⟨#[32, 72, 84, 84, 80, 47, 49, 46, 49, 13, 10]⟩ : ByteArray) ++ (linesB l ++ crlf)
theorem whole_eq (m p : ByteArray) (l : List S26) (hm : m.size ≤ 1000) (hp : p.size ≤ 1000) (hl : l.length ≤ 1000) (hh : Hs l) : head_whole.f m p l = some (wholeB m p l) := by
  have hz := linesB_size l (hs_small l hh)
  have z1 : (⟨#[32]⟩ : ByteArray).size = 1 := rfl
  have z2 : (⟨#[72, 84, 84, 80, 47, 49, 46, 49]⟩ : ByteArray).size = 8 := rfl
  have z3 : (⟨#[13, 10]⟩ : ByteArray).size = 2 := rfl
  have z4 : crlf.size = 2 := rfl
  unfold head_whole.f
  rw [Lines_eq l hl hh]
  rw [if_pos (by omega), if_pos (by rw [ByteArray.size_append]; omega), if_pos (by rw [ByteArray.size_append, ByteArray.size_append]; omega), if_pos (by rw [ByteArray.size_append, ByteArray.size_append, ByteArray.size_append]; omega),
    if_pos (by rw [ByteArray.size_append, ByteArray.size_append, ByteArray.size_append, ByteArray.size_append]; omega)]
  show (if _ then some _ else none) = _
  rw [if_pos (by simp only [ByteArray.size_append]; omega)]
  unfold wholeB
  have e : (⟨#[32, 72, 84, 84, 80, 47, 49, 46, 49, 13, 10]⟩ : ByteArray) = (⟨#[32]⟩ : ByteArray) ++ (⟨#[72, 84, 84, 80, 47, 49, 46, 49]⟩ : ByteArray) ++ (⟨#[13, 10]⟩ : ByteArray) := by apply ByteArray.ext; rfl
  rw [e]
  simp only [ByteArray.append_assoc]
theorem refText_ev (m p : ByteArray) (l : List S26) (hm : m.size ≤ 1000) (hp : p.size ≤ 1000) (hl : l.length ≤ 1000) (hh : Hs l) : Ev (fun k => abatisref14_Text.f k m p l) (wholeB m p l) := by
  have hz := linesB_size l (hs_small l hh)
  have z1 : (⟨#[32]⟩ : ByteArray).size = 1 := rfl
  have z2 : (⟨#[32, 72, 84, 84, 80, 47, 49, 46, 49, 13, 10]⟩ : ByteArray).size = 11 := rfl
  have z4 : crlf.size = 2 := rfl
  unfold abatisref14_Text.f
  exact ev_pos (by omega) (ev_pos (by rw [ByteArray.size_append]; omega) (ev_pos (by rw [ByteArray.size_append, ByteArray.size_append]; omega) (Ev.bind (refLines_ev l hl hh) (ev_pos (by simp only [ByteArray.size_append]; omega) (ev_now rfl)))))

/-! ### which requests may be -/
def slashB (p : ByteArray) : Bool := Lib.hasPrefix p.data.toList [47]
theorem slash_empty (p : ByteArray) (h : p.size = 0) : slashB p = false := by
  have : p.data.toList = [] := List.eq_nil_of_length_eq_zero (by rw [data_length]; exact h)
  unfold slashB
  rw [this]
  rfl
theorem slash_bt (p : ByteArray) (h : 0 < p.size) : slashB p = decide (bt p 0 = 47) := by
  have hb0 : bt p 0 = (((p[0]'h).toNat : Nat) : Int) := bt_get p 0 h
  have hl : 0 < p.data.toList.length := by rw [data_length]; exact h
  have hd := List.drop_eq_getElem_cons hl
  rw [List.drop_zero] at hd
  have hc : p.data.toList = (p[0]'h) :: p.data.toList.drop 1 := hd.trans (by rw [Array.getElem_toList]; rfl)
  unfold slashB Lib.hasPrefix
  rw [hc, Bool.eq_iff_iff]
  simp only [List.isPrefixOf, Bool.and_true, beq_iff_eq, decide_eq_true_iff, hb0]
  constructor
  · intro e; rw [← e]; rfl
  · intro e
    have : (p[0]'h).toNat = 47 := by omega
    exact (UInt8.toNat_inj.1 (by rw [this]; rfl)).symm
def mayB (m p : ByteArray) (l : List S26) : Bool := tokB m && ((bytesOf p).all plainB && (slashB p && (decide (l.length ≤ 64) && (l.all headerB && decide ((wholeB m p l).size ≤ 8192)))))
theorem contains_eq (l : List S26) (hh : Hs l) : api_Header_43.f l 0 = some (!(l.all headerB)) := by
  obtain ⟨r, h1, h2⟩ := odd_eq l 0 hh
  unfold api_Header_43.f
  rw [show ((0 : Nat) : Int) = 0 from rfl] at h1
  rw [h1]
  show some _ = some _
  rw [h2]
theorem May_eq (m p : ByteArray) (l : List S26) (hm : m.size ≤ 1000) (hp : p.size ≤ 1000) (hl : l.length ≤ 1000) (hh : Hs l) : head_May.f m p l = some (mayB m p l) := by
  unfold head_May.f mayB
  rw [Token_eq, Plain_eq, contains_eq l hh, whole_eq m p l hm hp hl hh]
  have hs : strings_HasPrefix.f p (⟨#[47]⟩ : ByteArray) = some (slashB p) := rfl
  rw [hs]
  cases tokB m with
  | false => rfl
  | true =>
    cases (bytesOf p).all plainB with
    | false => rfl
    | true =>
      cases slashB p with
      | false => rfl
      | true =>
        show (if (l.length : Int) ≤ 64 then _ else some false) = _
        by_cases c : l.length ≤ 64
        · rw [if_pos (by omega), decide_eq_true c]
          cases l.all headerB with
          | false => rfl
          | true =>
            show some (decide (((wholeB m p l).size : Int) ≤ 8192)) = some (decide ((wholeB m p l).size ≤ 8192))
            congr 1
            rw [decide_eq_decide]
            omega
        · rw [if_neg (by omega), decide_eq_false c]
          rfl
theorem refMay_loop (m p : ByteArray) (l : List S26) (hm : m.size ≤ 1000) (hp : p.size ≤ 1000) (hl : l.length ≤ 64) (hh : Hs l) (h0 : 0 < p.size) (d : Nat) : ∀ i : Nat, i + d = l.length →
    Ev (fun k => abatisref14_May.l0 k (i : Int) m p l) ((l.drop i).all headerB && (slashB p && decide ((wholeB m p l).size ≤ 8192))) := by
  induction d with
  | zero =>
    intro i hi
    rw [List.drop_of_length_le (by omega), slash_bt p h0]
    refine Ev.step (fun k => abatisref14_May.l0.eq_2 ..) (ev_neg (by omega) (ev_pos (by omega) ?_))
    by_cases c : bt p 0 = 47
    · rw [decide_eq_true c]
      refine ev_pos c (Ev.bind (refText_ev m p l hm hp (by omega) hh) (ev_now ?_))
      show decide (((wholeB m p l).size : Int) ≤ 8192) = (true && (true && decide ((wholeB m p l).size ≤ 8192)))
      rw [Bool.true_and, Bool.true_and, decide_eq_decide]
      omega
    · rw [decide_eq_false c]
      exact ev_neg c (ev_now rfl)
  | succ d ih =>
    intro i hi
    have hlt : i < l.length := by omega
    have e : wrap64 ((i : Int) + 1) = ((i + 1 : Nat) : Int) := by unfold wrap64; omega
    have hs := hh _ (List.getElem_mem hlt)
    rw [List.drop_eq_getElem_cons hlt, List.all_cons]
    refine Ev.step (fun k => abatisref14_May.l0.eq_2 ..) (ev_pos (by omega) (ev_pos (by omega) ?_))
    rw [rdH_at l i hlt, e]
    refine Ev.bind (refHeader_ev l[i] hs.1 hs.2) ?_
    cases headerB l[i] with
    | true => exact ev_true (by rw [Bool.true_and]; exact ih (i + 1) (by omega))
    | false => exact ev_false (ev_now rfl)
theorem refMay_ev (m p : ByteArray) (l : List S26) (hm : m.size ≤ 1000) (hp : p.size ≤ 1000) (hl : l.length ≤ 1000) (hh : Hs l) : Ev (fun k => abatisref14_May.f k m p l) (mayB m p l) := by
  have hno : ∀ r, r = false → Ev (fun k => abatisref14_May.j0 k true m p l) r := fun r hr => Ev.step (fun k => abatisref14_May.j0.eq_2 ..) (ev_pos rfl (ev_now hr.symm))
  unfold abatisref14_May.f mayB
  refine Ev.bind (refToken_ev m hm) (Ev.bind (refPlain_ev p hp) ?_)
  show Ev (fun k => if tokB m = true then _ else _) _
  cases tokB m with
  | false => exact ev_false (hno _ rfl)
  | true =>
    refine ev_true ?_
    cases (bytesOf p).all plainB with
    | false => exact ev_false (hno _ rfl)
    | true =>
      refine ev_true ?_
      by_cases c : p.size = 0
      · refine ev_pos (by omega) (hno _ ?_)
        rw [slash_empty p c]
        rfl
      · refine ev_neg (by omega) ?_
        by_cases c2 : l.length ≤ 64
        · rw [decide_eq_false (p := (l.length : Int) > 64) (by omega), decide_eq_true c2]
          have h1 := refMay_loop m p l hm hp c2 hh (by omega) l.length 0 (by omega)
          rw [List.drop_zero] at h1
          refine Ev.step (fun k => abatisref14_May.j0.eq_2 ..) (ev_neg (by decide) ?_)
          have e : (true && (true && (slashB p && (true && (l.all headerB && decide ((wholeB m p l).size ≤ 8192)))))) = (l.all headerB && (slashB p && decide ((wholeB m p l).size ≤ 8192))) := by
            cases slashB p <;> cases l.all headerB <;> rfl
          rw [e]
          exact h1
        · rw [decide_eq_true (p := (l.length : Int) > 64) (by omega), decide_eq_false c2]
          refine hno _ ?_
          cases slashB p <;> rfl
theorem Write_eq (m p : ByteArray) (l : List S26) (hm : m.size ≤ 1000) (hp : p.size ≤ 1000) (hl : l.length ≤ 1000) (hh : Hs l) : head_Write.f m p l = some (if mayB m p l = true then (wholeB m p l, 0) else ((⟨#[]⟩ : ByteArray), 1)) := by
  unfold head_Write.f
  rw [May_eq m p l hm hp hl hh, whole_eq m p l hm hp hl hh]
  cases mayB m p l <;> rfl
end Go.Proofs.YthjhbhgfckaklabDoor.P
end
section
namespace Go.Proofs.YthjhbhgfckaklabDoor.P
open Go.RowKit Go.Proofs.YthjhbhgfckaklabDoorW.PrintWords Go.Proofs.YthjhbhgfckaklabDoorW.PrintLast Go.Proofs.YthjhbhgfckaklabDoorW.PrintMore
set_option linter.unusedVariables false
set_option linter.unusedSimpArgs false
def few60 (h : S26) : S26 := ⟨few h.f0 60, few h.f1 60⟩
def fewB (l : List S26) (n : Nat) : List S26 := (l.take n).map few60
theorem fewB_small (l : List S26) (n : Nat) : (fewB l n).length ≤ n ∧ ∀ h ∈ fewB l n, h.f0.size ≤ 60 ∧ h.f1.size ≤ 60 := by
  unfold fewB
  refine ⟨by rw [List.length_map, List.length_take]; omega, fun h hh => ?_⟩
  simp only [List.mem_map] at hh
  obtain ⟨x, _, rfl⟩ := hh
  exact ⟨few_size _ _, few_size _ _⟩
theorem fewB_hs (l : List S26) (n : Nat) : Hs (fewB l n) := fun h hh => ⟨Nat.le_trans ((fewB_small l n).2 h hh).1 (by omega), Nat.le_trans ((fewB_small l n).2 h hh).2 (by omega)⟩
theorem fewB_more (l : List S26) (i : Nat) (h : i < l.length) : (l.take (i + 1)).map few60 = (l.take i).map few60 ++ [⟨few l[i].f0 60, few l[i].f1 60⟩] := by
  rw [List.take_add_one, List.getElem?_eq_getElem h, List.map_append]
  rfl
theorem few_loop (l : List S26) (n : Nat) (hn : n ≤ 1000) (d : Nat) : ∀ i : Nat, i + d = min n l.length → Ev (fun k => abatislaw14_few.l0 k l (n : Int) ((l.take i).map few60) (i : Int)) (fewB l n) := by
  induction d with
  | zero =>
    intro i hi
    have ht : (l.take i).map few60 = fewB l n := by
      unfold fewB
      obtain rfl : i = min n l.length := hi
      rw [← List.take_eq_take_min]
    have hj : Ev (fun k => abatislaw14_few.j1 k l (n : Int) (fewB l n) (i : Int) false) (fewB l n) := Ev.step (fun k => abatislaw14_few.j1.eq_2 ..) (ev_neg (by decide) (ev_now rfl))
    rw [ht]
    refine Ev.step (fun k => abatislaw14_few.l0.eq_2 ..) ?_
    by_cases c : (i : Int) < (l.length : Int)
    · refine ev_pos c ?_
      rw [decide_eq_false (by omega)]
      exact hj
    · exact ev_neg c hj
  | succ d ih =>
    intro i hi
    have hlt : i < l.length := by omega
    have e : wrap64 ((i : Int) + 1) = ((i + 1 : Nat) : Int) := by unfold wrap64; omega
    have hm := ih (i + 1) (by omega)
    rw [fewB_more l i hlt] at hm
    refine Ev.step (fun k => abatislaw14_few.l0.eq_2 ..) (ev_pos (by omega) ?_)
    rw [decide_eq_true (by omega)]
    refine Ev.step (fun k => abatislaw14_few.j1.eq_2 ..) (ev_pos rfl (ev_pos (by omega) (ev_pos (by omega) ?_)))
    rw [rdH_at l i hlt, e]
    refine ev_get (Few_eq _ 60) (ev_get (Few_eq _ 60) (ev_pos ?_ hm))
    rw [List.length_map, List.length_take]; omega
theorem few_ev (l : List S26) (n : Nat) (hn : n ≤ 1000) : Ev (fun k => abatislaw14_few.f k l (n : Int)) (fewB l n) := few_loop l n hn (min n l.length) 0 (by omega)
end Go.Proofs.YthjhbhgfckaklabDoor.P
end
section
namespace Go.Proofs.YthjhbhgfckaklabDoor.P
open Go.RowKit Go.Proofs.YthjhbhgfckaklabDoorW.PrintWords Go.Proofs.YthjhbhgfckaklabDoorW.PrintLast Go.Proofs.YthjhbhgfckaklabDoorW.PrintMore
set_option linter.unusedVariables false
set_option linter.unusedSimpArgs false
theorem HeadWrites_ev (m p : ByteArray) (l : List S26) : Ev (fun k => abatislaw14_HeadWrites.f k m p l) true := by
  have h1 : abatisref01_Few.f m 20 = some (few m 20) := Few_eq m 20
  have h2 : abatisref01_Few.f p 100 = some (few p 100) := Few_eq p 100
  have h3 : Ev (fun k => abatislaw14_few.f k l 66) (fewB l 66) := few_ev l 66 (by omega)
  have s1 := few_size m 20
  have s2 := few_size p 100
  have s3 := (fewB_small l 66).1
  have s4 := fewB_hs l 66
  unfold abatislaw14_HeadWrites.f
  generalize few m 20 = m at *
  generalize few p 100 = p at *
  generalize fewB l 66 = q at *
  refine ev_get h1 (ev_get h2 (Ev.bind h3 (Ev.bind (refMay_ev m p q (by omega) (by omega) (by omega) s4) (ev_get (Write_eq m p q (by omega) (by omega) (by omega) s4) (ev_get (May_eq m p q (by omega) (by omega) (by omega) s4) ?_)))))
  have ht := refText_ev m p q (by omega) (by omega) (by omega) s4
  cases mayB m p q with
  | true =>
    refine ev_neg (by decide) ?_
    rw [if_pos rfl]
    exact Ev.step (fun k => abatislaw14_HeadWrites.j0.eq_2 ..) (ev_neg (by show ¬ (((0 : Int) == 0) != true) = true; decide) (ev_pos rfl (Ev.bind ht (ev_pos rfl (Ev.bind lives14_ev (Ev.now _))))))
  | false =>
    refine ev_neg (by decide) ?_
    rw [if_neg (by decide)]
    exact Ev.step (fun k => abatislaw14_HeadWrites.j0.eq_2 ..) (ev_neg (by decide) (ev_neg (by decide) (ev_pos (by decide +kernel) (ev_pos rfl (Ev.bind lives14_ev (Ev.now _))))))
end Go.Proofs.YthjhbhgfckaklabDoor.P
end
section
namespace Go.Proofs.YthjhbhgfckaklabDoor.Pure
open Go.Proofs.YthjhbhgfckaklabDoor.P
theorem HeadWrites : abatislaw14_HeadWrites.Pure := fun m p l _ _ _ => (HeadWrites_ev m p l).rounds
end Go.Proofs.YthjhbhgfckaklabDoor.Pure
end
