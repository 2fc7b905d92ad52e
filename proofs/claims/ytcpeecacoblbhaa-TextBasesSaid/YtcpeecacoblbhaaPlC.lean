/-
  Plain laws on numbers' digits, and TextBases.
-/
import Derived.Test.YtcpeecacoblbhaaBase
import Derived.Test.YtcpeecacoblbhaaPlB
import Derived.Test.YtcpeecacoblbhaaPL12
namespace Go.Proofs.Ytcpeecacoblbhaa.P
open Go.RowKit Go.Proofs.YtcpeecacoblbhaaW.PrintWords Go.Proofs.YtcpeecacoblbhaaW.PrintLast Go.Proofs.YtcpeecacoblbhaaW.PrintMore
set_option linter.unusedVariables false
set_option linter.unusedSimpArgs false

/-- The number of a list of digits, behind a number that was told so far. -/
def numL (base : Int) : List Int → Int → Option Int
  | [], n => some n
  | c :: l, n => if valI c < 0 ∨ base ≤ valI c then none else if 1099511627776 < n * base + valI c then none else numL base l (n * base + valI c)
def numR (s : ByteArray) : Option Int → Int × Bool
  | some v => (v, decide (0 < s.size))
  | none => (0, false)
theorem valI_high (c : Int) (h : 103 ≤ c) : valI c = -1 := by
  unfold valI; rw [if_neg (by omega), if_neg (by omega), if_neg (by omega)]
theorem numFrom_L (s : ByteArray) (base : Int) (d : Nat) : ∀ (pos f : Nat) (n : Int), pos + d = s.size → d ≤ f → numFrom s base f pos n = numR s (numL base ((bytesOf s).drop pos) n) := by
  induction d with
  | zero =>
    intro pos f n hp hf
    rw [numFrom_end s base f pos n (by omega), List.drop_of_length_le (by rw [bytesOf_length]; omega)]
    rfl
  | succ d ih =>
    intro pos f n hp hf
    have hlt : pos < s.size := by omega
    obtain ⟨f, rfl⟩ : ∃ g, f = g + 1 := ⟨f - 1, by omega⟩
    rw [bytesOf_drop s pos hlt]
    by_cases hb : (s[pos]'hlt).toNat < 128
    · have hd := decode_ascii s pos hlt hb
      have h1 : ((Utf8.decode s pos).1 : Int) = bt s pos := by rw [hd, bt_get s pos hlt]
      have h2 : (Utf8.decode s pos).2 = 1 := by rw [hd]
      unfold numL
      by_cases hbad : valI (bt s pos) < 0 ∨ base ≤ valI (bt s pos)
      · rw [if_pos hbad, numFrom_bad s base f pos n hlt (by rw [h1]; exact hbad)]; rfl
      · rw [if_neg hbad]
        by_cases hfar : 1099511627776 < n * base + valI (bt s pos)
        · rw [if_pos hfar, numFrom_far s base f pos n hlt (by rw [h1]; exact hbad) (by rw [h1]; exact hfar)]; rfl
        · rw [if_neg hfar, numFrom_step s base f pos n hlt (by rw [h1]; exact hbad) (by rw [h1]; exact hfar), h1, h2]
          exact ih (pos + 1) f _ (by omega) (by omega)
    · have hh := (decode_high s pos hlt (by omega)).1
      have h1 : valI ((Utf8.decode s pos).1 : Int) = -1 := valI_high _ (by omega)
      have h2 : valI (bt s pos) = -1 := valI_high _ (by rw [bt_get s pos hlt]; omega)
      unfold numL
      rw [numFrom_bad s base f pos n hlt (.inl (by rw [h1]; omega)), if_pos (.inl (by rw [h2]; omega))]
      rfl
theorem Number_eq (s : ByteArray) (base : Int) (h0 : 0 ≤ base) (h1 : base ≤ 1000) : text_Number.f s base = some (numR s (numL base (bytesOf s) 0)) := by
  unfold text_Number.f
  rw [if_pos ⟨h0, h1⟩, numFrom_L s base s.size 0 s.size 0 (by omega) (by omega), List.drop_zero]
theorem numL_bad (base : Int) (c : Int) (hc : valI c < 0) : ∀ (l r : List Int) (n : Int), numL base (l ++ c :: r) n = none
  | [], r, n => by simp only [List.nil_append, numL, if_pos (Or.inl hc)]
  | x :: l, r, n => by
    rw [List.cons_append]
    unfold numL
    split
    · rfl
    · split
      · rfl
      · exact numL_bad base c hc l r _

def hexC (d : Int) : Int := if d < 10 then 48 + d else 87 + d
theorem hexC_val (d : Int) (h0 : 0 ≤ d) (h1 : d ≤ 15) : valI (hexC d) = d := by
  unfold hexC valI
  by_cases h : d < 10
  · rw [if_pos h, if_pos (by omega)]; omega
  · rw [if_neg h, if_neg (by omega), if_pos (by omega)]; omega
def hexS : ByteArray := ⟨#[48, 49, 50, 51, 52, 53, 54, 55, 56, 57, 97, 98, 99, 100, 101, 102]⟩
theorem hex_digit : ∀ d : Nat, d < 16 → bytesOf (hexS.extract d (d + 1)) = [hexC (d : Int)] := by decide +kernel
theorem hex_size : ∀ d : Nat, d < 16 → (hexS.extract d (d + 1)).size = 1 := by decide +kernel
/-- The digits of n, i of them, in a base. -/
def Digits (b : Nat) (n i : Nat) (s : ByteArray) : Prop :=
  s.size = i ∧ ∀ m : Nat, m * b ^ i + n % b ^ i ≤ 1099511627776 → numL (b : Int) (bytesOf s) (m : Int) = some ((m * b ^ i + n % b ^ i : Nat) : Int)
theorem digits_step (b n i : Nat) (s : ByteArray) (hb0 : 2 ≤ b) (hb1 : b ≤ 16) (h : Digits b n i s) : Digits b n (i + 1) (hexS.extract (n / b ^ i % b) (n / b ^ i % b + 1) ++ s) := by
  have hd : n / b ^ i % b < b := Nat.mod_lt _ (by omega)
  refine ⟨by rw [ByteArray.size_append, hex_size _ (by omega), h.1]; omega, fun m hm => ?_⟩
  have e1 : n % b ^ (i + 1) = n / b ^ i % b * b ^ i + n % b ^ i := by
    rw [Nat.pow_succ, Nat.mod_mul, Nat.mul_comm (b ^ i), Nat.add_comm]
  have e2 : m * b ^ (i + 1) + n % b ^ (i + 1) = (m * b + n / b ^ i % b) * b ^ i + n % b ^ i := by
    rw [e1, Nat.pow_succ, Nat.add_mul, Nat.mul_assoc, Nat.mul_comm b, Nat.add_assoc]
  rw [e2] at hm ⊢
  rw [bytesOf_append, hex_digit _ (by omega)]
  generalize hq : n / b ^ i % b = q at hm hd ⊢
  have hv := hexC_val (q : Int) (by omega) (by omega)
  have hpos : 0 < b ^ i := Nat.pow_pos (by omega)
  have hle : m * b + q ≤ 1099511627776 := Nat.le_trans (Nat.le_mul_of_pos_right (m * b + q) hpos) (Nat.le_trans (Nat.le_add_right _ _) hm)
  have ec : (m : Int) * (b : Int) + (q : Int) = ((m * b + q : Nat) : Int) := by push_cast; rfl
  have n1 : ¬ (valI (hexC (q : Int)) < 0 ∨ (b : Int) ≤ valI (hexC (q : Int))) := by rw [hv]; omega
  have n2 : ¬ (1099511627776 < (m : Int) * (b : Int) + valI (hexC (q : Int))) := by rw [hv, ec]; omega
  simp only [List.singleton_append]
  unfold numL
  rw [if_neg n1, if_neg n2, hv, ec]
  exact h.2 (m * b + q) hm
theorem digits_zero (b n : Nat) : Digits b n 0 (⟨#[]⟩ : ByteArray) := by
  refine ⟨rfl, fun m hm => ?_⟩
  simp [bytesOf, numL, Nat.mod_one]

theorem Around_some (a m : Int) (hm : 0 < m) (ha : (Lit.int .i64 a).wf = true) : ∃ n : Int, 0 ≤ n ∧ n < m ∧ abatisref01_Around.f a m = some n := by
  have hb : -9223372036854775808 ≤ a ∧ a ≤ 9223372036854775807 := by
    simp [Lit.wf] at ha
    exact ha
  unfold abatisref01_Around.f
  by_cases h : a < 0
  · rw [if_pos h, if_neg (by omega)]
    have e : wrap64 (-(wrap64 (a + 1))) = -(a + 1) := by unfold wrap64; omega
    rw [e, Int.tmod_eq_emod_of_nonneg (by omega)]
    exact ⟨_, Int.emod_nonneg _ (by omega), Int.emod_lt_of_pos _ hm, rfl⟩
  · rw [if_neg h, if_neg (by omega), Int.tmod_eq_emod_of_nonneg (by omega)]
    exact ⟨_, Int.emod_nonneg _ (by omega), Int.emod_lt_of_pos _ hm, rfl⟩
theorem wrap_up (q : Nat) (h : q < 16) : wrap64 ((q : Int) + 1) = ((q + 1 : Nat) : Int) := by unfold wrap64; omega
theorem bases_step (n : Nat) (base : Nat) (idx : Int) (h0 : 0 ≤ idx) (h1 : idx < 3) (hb : rd ([8, 10, 16] : List Int) idx = (base : Int)) (hb0 : 2 ≤ base) (hb1 : base ≤ 16) (hn : n < base ^ 14) (hn2 : n ≤ 1099511627776)
    (nx : Int) (hx : wrap64 (idx + 1) = nx) (hk : Ev (fun k => abatislaw01_TextBases.l0 k (n : Int) ([8, 10, 16] : List Int) nx) true) (d : Nat) : ∀ (i : Nat) (s : ByteArray), i + d = 14 → Digits base n i s →
    Ev (fun k => abatislaw01_TextBases.l1 k (n : Int) ([8, 10, 16] : List Int) idx s ((n / base ^ i : Nat) : Int) (i : Int)) true := by
  induction d with
  | zero =>
    intro i s hi hs
    obtain rfl : i = 14 := by omega
    refine Ev.step (fun k => abatislaw01_TextBases.l1.eq_2 ..) (ev_neg (by omega) (ev_pos h0 (ev_pos (by simpa using h1) ?_)))
    rw [hb, hx]
    have hsz := hs.1
    have v0 := hs.2 0 (by rw [Nat.zero_mul, Nat.zero_add, Nat.mod_eq_of_lt hn]; exact hn2)
    rw [Nat.zero_mul, Nat.zero_add, Nat.mod_eq_of_lt hn] at v0
    have v1 : numL (base : Int) (bytesOf (s ++ (⟨#[103]⟩ : ByteArray))) 0 = none := by
      rw [bytesOf_append]
      exact numL_bad (base : Int) 103 (by decide) (bytesOf s) [] 0
    have v2 : numL (base : Int) (bytesOf ((⟨#[45]⟩ : ByteArray) ++ s)) 0 = none := by
      rw [bytesOf_append]
      exact numL_bad (base : Int) 45 (by decide) [] (bytesOf s) 0
    refine ev_get ((Number_eq s base (by omega) (by omega)).trans (congrArg (fun z => some (numR s z)) v0)) ?_
    refine ev_pos (by omega) ?_
    refine ev_get ((Number_eq _ base (by omega) (by omega)).trans (congrArg (fun z => some (numR (s ++ (⟨#[103]⟩ : ByteArray)) z)) v1)) ?_
    refine ev_pos (by omega) ?_
    refine ev_get ((Number_eq _ base (by omega) (by omega)).trans (congrArg (fun z => some (numR ((⟨#[45]⟩ : ByteArray) ++ s) z)) v2)) ?_
    refine ev_pos rfl (ev_pos (decide_eq_true (by omega)) (ev_false (ev_false hk)))
  | succ d ih =>
    intro i s hi hs
    refine Ev.step (fun k => abatislaw01_TextBases.l1.eq_2 ..) (ev_pos (by omega) (ev_pos h0 (ev_pos (by simpa using h1) ?_)))
    have hd := digits_step base n i s hb0 hb1 hs
    have hsz := hs.1
    have em : Int.tmod ((n / base ^ i : Nat) : Int) (base : Int) = ((n / base ^ i % base : Nat) : Int) := by
      rw [Int.tmod_eq_emod_of_nonneg (Int.natCast_nonneg _)]; rfl
    have ed : wrap64 (Int.tdiv ((n / base ^ i : Nat) : Int) (base : Int)) = ((n / base ^ (i + 1) : Nat) : Int) := by
      have h1 : Int.tdiv ((n / base ^ i : Nat) : Int) (base : Int) = ((n / base ^ i / base : Nat) : Int) := by
        rw [Int.tdiv_eq_ediv_of_nonneg (Int.natCast_nonneg _)]; rfl
      rw [h1, Nat.div_div_eq_div_mul, show base ^ i * base = base ^ (i + 1) from rfl]
      have h2 : n / base ^ (i + 1) ≤ n := Nat.div_le_self _ _
      generalize n / base ^ (i + 1) = q2 at h2
      unfold wrap64; omega
    have hm : n / base ^ i % base < base := Nat.mod_lt _ (by omega)
    generalize hq : n / base ^ i % base = q at hm hd em ⊢
    have eq1 : wrap64 ((q : Int) + 1) = ((q + 1 : Nat) : Int) := wrap_up q (Nat.lt_of_lt_of_le hm hb1)
    have ei : wrap64 ((i : Int) + 1) = ((i + 1 : Nat) : Int) := wrap_up i (by clear em ed; omega)
    have hq16 : q < 16 := Nat.lt_of_lt_of_le hm hb1
    have hz := hex_size q hq16
    rw [hb, em, eq1, ed, ei, Int.toNat_natCast, Int.toNat_natCast]
    clear em ed eq1 ei
    have t1 : ¬ ((base : Int) = 0) := by omega
    have t2 : (0 : Int) ≤ (q : Int) := by omega
    have t3 : (q : Int) ≤ ((q + 1 : Nat) : Int) := by omega
    have t4 : ((q + 1 : Nat) : Int) ≤ 16 := by omega
    have t5 : ((⟨#[48, 49, 50, 51, 52, 53, 54, 55, 56, 57, 97, 98, 99, 100, 101, 102]⟩ : ByteArray).extract q (q + 1)).size + s.size ≤ 9223372036854775807 := by
      have : (hexS.extract q (q + 1)).size + s.size ≤ 9223372036854775807 := by omega
      exact this
    exact ev_neg t1 (ev_pos t2 (ev_pos t3 (ev_pos t4 (ev_pos t5 (ih (i + 1) _ (by omega) hd)))))
theorem bases_loop (n : Nat) (hn2 : n ≤ 1099511627776) : Ev (fun k => abatislaw01_TextBases.l0 k (n : Int) ([8, 10, 16] : List Int) 0) true := by
  have e3 : Ev (fun k => abatislaw01_TextBases.l0 k (n : Int) ([8, 10, 16] : List Int) 3) true :=
    Ev.step (fun k => abatislaw01_TextBases.l0.eq_2 ..) (ev_neg (by omega) (Ev.bind lives01_ev (Ev.now _)))
  have go : ∀ (idx : Int) (base : Nat) (nx : Int), wrap64 (idx + 1) = nx → 0 ≤ idx → idx < 3 → rd ([8, 10, 16] : List Int) idx = (base : Int) → 2 ≤ base → base ≤ 16 → n < base ^ 14 →
      Ev (fun k => abatislaw01_TextBases.l0 k (n : Int) ([8, 10, 16] : List Int) nx) true → Ev (fun k => abatislaw01_TextBases.l0 k (n : Int) ([8, 10, 16] : List Int) idx) true := by
    intro idx base nx hx h0 h1 hb hb0 hb1 hn hk
    refine Ev.step (fun k => abatislaw01_TextBases.l0.eq_2 ..) (ev_pos h1 ?_)
    have := bases_step n base idx h0 h1 hb hb0 hb1 hn hn2 nx hx hk 14 0 _ (by omega) (digits_zero base n)
    rw [Nat.pow_zero, Nat.div_one] at this
    exact this
  have e2 := go 2 16 3 (by unfold wrap64; omega) (by omega) (by omega) rfl (by omega) (by omega) (by omega) e3
  have e1 := go 1 10 2 (by unfold wrap64; omega) (by omega) (by omega) rfl (by omega) (by omega) (by omega) e2
  exact go 0 8 1 (by unfold wrap64; omega) (by omega) (by omega) rfl (by omega) (by omega) (by omega) e1
theorem TextBases_ev (a : Int) (ha : (Lit.int .i64 a).wf = true) : Ev (fun k => abatislaw01_TextBases.f k a) true := by
  obtain ⟨m, h0, h1, hm⟩ := Around_some a 1099511627777 (by omega) ha
  unfold abatislaw01_TextBases.f
  refine ev_get hm ?_
  obtain ⟨n, rfl⟩ := Int.eq_ofNat_of_zero_le h0
  exact bases_loop n (by omega)
end Go.Proofs.Ytcpeecacoblbhaa.P
