/-
  Plain laws for TextKinds: tokens and plain texts, sign by sign and byte by byte.
-/
import Derived.Test.YtcpeecacoblbhaaPlA
import Derived.Test.YtcpeecacoblbhaaPA3
import Derived.Test.YtcpeecacoblbhaaPL21
namespace Go.Proofs.Ytcpeecacoblbhaa.P
open Go.RowKit Go.Proofs.YtcpeecacoblbhaaW.PrintWords Go.Proofs.YtcpeecacoblbhaaW.PrintLast Go.Proofs.YtcpeecacoblbhaaW.PrintMore
set_option linter.unusedVariables false
set_option linter.unusedSimpArgs false

theorem allFrom_bytes (p : Int → Bool) (hp : ∀ c : Int, 128 ≤ c → p c = false) (s : ByteArray) (d : Nat) : ∀ pos f, pos + d = s.size → d ≤ f → allFrom p s f pos = ((bytesOf s).drop pos).all p := by
  induction d with
  | zero =>
    intro pos f h hf
    rw [allFrom_end p s f pos (by omega), List.drop_of_length_le (by rw [bytesOf_length]; omega)]
    rfl
  | succ d ih =>
    intro pos f h hf
    have hlt : pos < s.size := by omega
    obtain ⟨f, rfl⟩ : ∃ g, f = g + 1 := ⟨f - 1, by omega⟩
    rw [bytesOf_drop s pos hlt, List.all_cons]
    by_cases hb : (s[pos]'hlt).toNat < 128
    · have hd := decode_ascii s pos hlt hb
      have h1 : ((Utf8.decode s pos).1 : Int) = bt s pos := by rw [hd, bt_get s pos hlt]
      have h2 : (Utf8.decode s pos).2 = 1 := by rw [hd]
      cases hx : p (bt s pos) with
      | true => rw [allFrom_yes p s f pos hlt (by rw [h1]; exact hx), h2, ih (pos + 1) f (by omega) (by omega)]; rfl
      | false => rw [allFrom_no p s f pos hlt (by rw [h1]; exact hx)]; rfl
    · have hh := (decode_high s pos hlt (by omega)).1
      rw [allFrom_no p s f pos hlt (hp _ (by omega)), hp (bt s pos) (by rw [bt_get s pos hlt]; omega)]
      rfl
theorem allFrom_all (p : Int → Bool) (hp : ∀ c : Int, 128 ≤ c → p c = false) (s : ByteArray) : allFrom p s s.size 0 = (bytesOf s).all p := by
  rw [allFrom_bytes p hp s s.size 0 s.size (by omega) (by omega), List.drop_zero]
theorem plainB_high (c : Int) (h : 128 ≤ c) : plainB c = false := by unfold plainB; rw [decide_eq_false (by omega)]
theorem tokenB_high (c : Int) (h : 128 ≤ c) : tokenB c = false := by
  unfold tokenB; rw [decide_eq_false (by omega), if_neg (by omega)]; rfl

theorem refPlain_loop (s : ByteArray) (hs : s.size ≤ 1000) (d : Nat) : ∀ i : Nat, i + d = s.size → Ev (fun k => abatisref01_Plain.l0 k s (i : Int)) (((bytesOf s).drop i).all plainB) := by
  induction d with
  | zero =>
    intro i hi
    rw [List.drop_of_length_le (by rw [bytesOf_length]; omega)]
    exact Ev.step (fun k => abatisref01_Plain.l0.eq_2 ..) (ev_neg (by omega) (ev_now rfl))
  | succ d ih =>
    intro i hi
    have e : wrap64 ((i : Int) + 1) = ((i + 1 : Nat) : Int) := by unfold wrap64; omega
    refine Ev.step (fun k => abatisref01_Plain.l0.eq_2 ..) (ev_pos (by omega) (ev_pos (by omega) ?_))
    rw [e, bytesOf_drop s i (by omega), List.all_cons]
    by_cases a : bt s i < 33
    · have : plainB (bt s i) = false := by unfold plainB; rw [decide_eq_false (by omega)]
      rw [this]
      exact ev_pos a (ev_now rfl)
    · refine ev_neg a ?_
      by_cases b : bt s i > 126
      · have : plainB (bt s i) = false := by unfold plainB; rw [decide_eq_false (by omega)]
        rw [this]
        exact ev_pos b (ev_now rfl)
      · have : plainB (bt s i) = true := by unfold plainB; rw [decide_eq_true (by omega)]
        rw [this, Bool.true_and]
        exact ev_neg b (ih (i + 1) (by omega))
theorem refPlain_ev (s : ByteArray) (hs : s.size ≤ 1000) : Ev (fun k => abatisref01_Plain.f k s) ((bytesOf s).all plainB) := by
  have := refPlain_loop s hs s.size 0 (by omega)
  rw [List.drop_zero] at this
  exact this

theorem has_loop (s : ByteArray) (hs : s.size ≤ 1000) (c : Int) (d : Nat) : ∀ i : Nat, i + d = s.size → Ev (fun k => abatisref01_Has.l0 k s c (i : Int)) (((bytesOf s).drop i).any (· == c)) := by
  induction d with
  | zero =>
    intro i hi
    rw [List.drop_of_length_le (by rw [bytesOf_length]; omega)]
    exact Ev.step (fun k => abatisref01_Has.l0.eq_2 ..) (ev_neg (by omega) (ev_now rfl))
  | succ d ih =>
    intro i hi
    have e : wrap64 ((i : Int) + 1) = ((i + 1 : Nat) : Int) := by unfold wrap64; omega
    refine Ev.step (fun k => abatisref01_Has.l0.eq_2 ..) (ev_pos (by omega) (ev_pos (by omega) ?_))
    rw [e, bytesOf_drop s i (by omega), List.any_cons]
    by_cases a : bt s i = c
    · rw [beq_iff_eq.2 a, Bool.true_or]
      exact ev_pos a (ev_now rfl)
    · rw [beq_eq_false_iff_ne.2 a, Bool.false_or]
      exact ev_neg a (ih (i + 1) (by omega))
theorem has_ev (s : ByteArray) (hs : s.size ≤ 1000) (c : Int) : Ev (fun k => abatisref01_Has.f k s c) ((bytesOf s).any (· == c)) := by
  have := has_loop s hs c s.size 0 (by omega)
  rw [List.drop_zero] at this
  exact this
def hasM (c : Int) : Bool := (bytesOf marksS).any (· == c)
theorem hasM_all : ∀ c : Nat, c < 256 → (if c < 128 then decide (0 ≤ Lib.indexByte marksS.data.toList c.toUInt8) else false) = hasM (c : Int) := by decide +kernel
theorem hasM_eq (c : Int) (h0 : 0 ≤ c) (h1 : c ≤ 255) : (if c < 128 then decide (0 ≤ Lib.indexByte marksS.data.toList c.toNat.toUInt8) else false) = hasM c := by
  obtain ⟨n, rfl⟩ := Int.eq_ofNat_of_zero_le h0
  rw [← hasM_all n (by omega)]
  by_cases a : n < 128
  · rw [if_pos a, if_pos (by omega)]; rfl
  · rw [if_neg a, if_neg (by omega)]
theorem tokenB_eq (c : Int) (h0 : 0 ≤ c) (h1 : c ≤ 255) : tokenB c = (decide ((97 ≤ c ∧ c ≤ 122) ∨ (65 ≤ c ∧ c ≤ 90) ∨ (48 ≤ c ∧ c ≤ 57)) || hasM c) := by
  unfold tokenB; rw [hasM_eq c h0 h1]

theorem refToken_loop (s : ByteArray) (hs : s.size ≤ 1000) (d : Nat) : ∀ i : Nat, i + d = s.size → Ev (fun k => abatisref01_Token.l0 k s (i : Int)) (((bytesOf s).drop i).all tokenB && decide (0 < s.size)) := by
  induction d with
  | zero =>
    intro i hi
    rw [List.drop_of_length_le (by rw [bytesOf_length]; omega)]
    refine Ev.step (fun k => abatisref01_Token.l0.eq_2 ..) (ev_neg (by omega) (ev_now ?_))
    rw [List.all_nil, Bool.true_and, decide_eq_decide]
    omega
  | succ d ih =>
    intro i hi
    have e : wrap64 ((i : Int) + 1) = ((i + 1 : Nat) : Int) := by unfold wrap64; omega
    have hr := bt_range s i
    have hk := ih (i + 1) (by omega)
    have hm := has_ev marksS (by decide) (bt s i)
    refine Ev.step (fun k => abatisref01_Token.l0.eq_2 ..) (ev_pos (by omega) (ev_pos (by omega) ?_))
    rw [e, bytesOf_drop s i (by omega), List.all_cons, tokenB_eq _ hr.1 hr.2]
    change Ev (fun k => abatisref01_Has.f k marksS (bt s i)) (hasM (bt s i)) at hm
    generalize hasM (bt s i) = m at hm
    generalize hc : bt s i = c at *
    have yes : ((97 ≤ c ∧ c ≤ 122) ∨ (65 ≤ c ∧ c ≤ 90) ∨ (48 ≤ c ∧ c ≤ 57)) → Ev (fun k => abatisref01_Token.l0 k s ((i + 1 : Nat) : Int)) (((decide ((97 ≤ c ∧ c ≤ 122) ∨ (65 ≤ c ∧ c ≤ 90) ∨ (48 ≤ c ∧ c ≤ 57)) || m) && ((bytesOf s).drop (i + 1)).all tokenB) && decide (0 < s.size)) := by
      intro h
      rw [decide_eq_true h, Bool.true_or, Bool.true_and]
      exact hk
    have mark : ¬ ((97 ≤ c ∧ c ≤ 122) ∨ (65 ≤ c ∧ c ≤ 90) ∨ (48 ≤ c ∧ c ≤ 57)) → Ev (fun k => if m = true then abatisref01_Token.l0 k s ((i + 1 : Nat) : Int) else some false) (((decide ((97 ≤ c ∧ c ≤ 122) ∨ (65 ≤ c ∧ c ≤ 90) ∨ (48 ≤ c ∧ c ≤ 57)) || m) && ((bytesOf s).drop (i + 1)).all tokenB) && decide (0 < s.size)) := by
      intro h
      rw [decide_eq_false h, Bool.false_or]
      cases m with
      | true => rw [Bool.true_and]; exact ev_true hk
      | false => exact ev_false (ev_now rfl)
    have digit : ¬ ((97 ≤ c ∧ c ≤ 122) ∨ (65 ≤ c ∧ c ≤ 90)) → Ev (fun k => if c ≥ 48 then (if c ≤ 57 then abatisref01_Token.l0 k s ((i + 1 : Nat) : Int) else (if m = true then abatisref01_Token.l0 k s ((i + 1 : Nat) : Int) else some false)) else (if m = true then abatisref01_Token.l0 k s ((i + 1 : Nat) : Int) else some false)) (((decide ((97 ≤ c ∧ c ≤ 122) ∨ (65 ≤ c ∧ c ≤ 90) ∨ (48 ≤ c ∧ c ≤ 57)) || m) && ((bytesOf s).drop (i + 1)).all tokenB) && decide (0 < s.size)) := by
      intro h
      by_cases a : c ≥ 48
      · refine ev_pos a ?_
        by_cases b : c ≤ 57
        · exact ev_pos b (yes (by omega))
        · exact ev_neg b (mark (by omega))
      · exact ev_neg a (mark (by omega))
    by_cases a : c ≥ 97
    · refine ev_pos a ?_
      by_cases b : c ≤ 122
      · exact ev_pos b (Ev.bind hm (yes (by omega)))
      · exact ev_neg b (ev_pos (by omega) (Ev.bind hm (ev_neg (by omega) (digit (by omega)))))
    · refine ev_neg a ?_
      by_cases b : c ≥ 65
      · refine ev_pos b (Ev.bind hm ?_)
        by_cases f : c ≤ 90
        · exact ev_pos f (yes (by omega))
        · exact ev_neg f (digit (by omega))
      · exact ev_neg b (Ev.bind hm (digit (by omega)))
theorem refToken_ev (s : ByteArray) (hs : s.size ≤ 1000) : Ev (fun k => abatisref01_Token.f k s) ((bytesOf s).all tokenB && decide (0 < s.size)) := by
  have := refToken_loop s hs s.size 0 (by omega)
  rw [List.drop_zero] at this
  exact this
theorem token_plain (c : Int) (h0 : 0 ≤ c) (h1 : c ≤ 255) (h : tokenB c = true) : plainB c = true := by
  have all : ∀ n : Nat, n < 256 → tokenB (n : Int) = true → plainB (n : Int) = true := by decide +kernel
  obtain ⟨n, rfl⟩ := Int.eq_ofNat_of_zero_le h0
  exact all n (by omega) h
theorem TextKinds_ev (a : ByteArray) : Ev (fun k => abatislaw01_TextKinds.f k a) true := by
  have h1 : abatisref01_Few.f a 40 = some (few a 40) := Few_eq a 40
  have s1 := few_size a 40
  unfold abatislaw01_TextKinds.f
  generalize few a 40 = x at *
  have T : text_Token.f x = some ((bytesOf x).all tokenB && decide (0 < x.size)) := by
    unfold text_Token.f; rw [allFrom_all _ tokenB_high, Bool.and_comm]
  have L : text_Plain.f x = some ((bytesOf x).all plainB) := by
    unfold text_Plain.f; rw [allFrom_all _ plainB_high]
  refine ev_get h1 (ev_get T (Ev.bind (refToken_ev x (by omega)) (ev_pos (by simp) (ev_get L (Ev.bind (refPlain_ev x (by omega)) (ev_pos (by simp) ?_))))))
  have hlv : ∀ (f : Bool → Option Bool), (∀ b, f b = some b) → Ev (fun k => (abatislaw01_lives.f k).bind f) true := fun f hf => Ev.bind lives01_ev (by rw [hf]; exact Ev.now _)
  cases ht : ((bytesOf x).all tokenB && decide (0 < x.size)) with
  | false => exact ev_false (hlv _ (fun _ => rfl))
  | true =>
    have hp : (bytesOf x).all plainB = true := by
      rw [Bool.and_eq_true] at ht
      rw [List.all_eq_true] at ht ⊢
      intro c hc
      have hr := bytesOf_range x c hc
      exact token_plain c hr.1 hr.2 (ht.1 c hc)
    rw [hp]
    exact ev_true (ev_true (hlv _ (fun _ => rfl)))
end Go.Proofs.Ytcpeecacoblbhaa.P
