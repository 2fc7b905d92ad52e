/-
  Plain laws for TextNumbers and TextPieces: a text's digits, a number's digits.
-/
import Derived.Test.YtcpeecacoblbhaaDoorTextC
import Derived.Test.YtcpeecacoblbhaaDoorTextH
import Derived.Test.YtcpeecacoblbhaaDoorPL11
namespace Go.Proofs.YtcpeecacoblbhaaDoor.P
open Go.RowKit Go.Proofs.YtcpeecacoblbhaaDoorW.PrintWords Go.Proofs.YtcpeecacoblbhaaDoorW.PrintLast Go.Proofs.YtcpeecacoblbhaaDoorW.PrintMore
set_option linter.unusedVariables false
set_option linter.unusedSimpArgs false

def few (s : ByteArray) (n : Nat) : ByteArray := if n < s.size then s.extract 0 n else s
theorem few_size (s : ByteArray) (n : Nat) : (few s n).size ≤ n := by
  unfold few
  split
  · rw [ByteArray.size_extract]; omega
  · omega
theorem Few_eq (s : ByteArray) (n : Nat) : abatisref01_Few.f s (n : Int) = some (few s n) := by
  unfold abatisref01_Few.f few
  by_cases h : n < s.size
  · rw [if_pos (by omega), if_pos (by omega), if_pos (by omega), if_pos h]; simp
  · rw [if_neg (by omega), if_neg h]
theorem lives01_ev : Ev (fun k => abatislaw01_lives.f k) true := Ev.of (fun k => abatislaw01_lives.mono k) (k := 12) (by decide +kernel)

/-- The number of a list of digits, behind a number that was told so far. -/
def numL (base : Int) : List Int → Int → Option Int
  | [], n => some n
  | c :: l, n => if valI c < 0 ∨ base ≤ valI c then none else if 1099511627776 < n * base + valI c then none else numL base l (n * base + valI c)
def numR (s : ByteArray) : Option Int → Int × Bool
  | some v => (v, decide (0 < s.size))
  | none => (0, false)
theorem valI_high (c : Int) (h : 103 ≤ c) : valI c = -1 := by
  unfold valI; rw [if_neg (by omega), if_neg (by omega), if_neg (by omega)]
theorem numFrom_L (s : ByteArray) (base : Int) (d : Nat) : ∀ (pos f : Nat) (n : Int), pos + d = s.size → d ≤ f → numFrom s base f pos n = numR s (numL base ((bytesOf s).drop pos) n) := by
  induction d with
  | zero =>
    intro pos f n hp hf
    rw [numFrom_end s base f pos n (by omega), List.drop_of_length_le (by rw [bytesOf_length]; omega)]
    rfl
  | succ d ih =>
    intro pos f n hp hf
    have hlt : pos < s.size := by omega
    obtain ⟨f, rfl⟩ : ∃ g, f = g + 1 := ⟨f - 1, by omega⟩
    rw [bytesOf_drop s pos hlt]
    by_cases hb : (s[pos]'hlt).toNat < 128
    · have hd := decode_ascii s pos hlt hb
      have h1 : ((Utf8.decode s pos).1 : Int) = bt s pos := by rw [hd, bt_get s pos hlt]
      have h2 : (Utf8.decode s pos).2 = 1 := by rw [hd]
      unfold numL
      by_cases hbad : valI (bt s pos) < 0 ∨ base ≤ valI (bt s pos)
      · rw [if_pos hbad, numFrom_bad s base f pos n hlt (by rw [h1]; exact hbad)]; rfl
      · rw [if_neg hbad]
        by_cases hfar : 1099511627776 < n * base + valI (bt s pos)
        · rw [if_pos hfar, numFrom_far s base f pos n hlt (by rw [h1]; exact hbad) (by rw [h1]; exact hfar)]; rfl
        · rw [if_neg hfar, numFrom_step s base f pos n hlt (by rw [h1]; exact hbad) (by rw [h1]; exact hfar), h1, h2]
          exact ih (pos + 1) f _ (by omega) (by omega)
    · have hh := (decode_high s pos hlt (by omega)).1
      have h1 : valI ((Utf8.decode s pos).1 : Int) = -1 := valI_high _ (by omega)
      have h2 : valI (bt s pos) = -1 := valI_high _ (by rw [bt_get s pos hlt]; omega)
      unfold numL
      rw [numFrom_bad s base f pos n hlt (.inl (by rw [h1]; omega)), if_pos (.inl (by rw [h2]; omega))]
      rfl
theorem Number_eq (s : ByteArray) (base : Int) (h0 : 0 ≤ base) (h1 : base ≤ 1000) : text_Number.f s base = some (numR s (numL base (bytesOf s) 0)) := by
  unfold text_Number.f
  rw [if_pos ⟨h0, h1⟩, numFrom_L s base s.size 0 s.size 0 (by omega) (by omega), List.drop_zero]
theorem numL_append (base : Int) : ∀ (l r : List Int) (n : Int), numL base (l ++ r) n = (numL base l n).bind (numL base r)
  | [], r, n => rfl
  | c :: l, r, n => by
    rw [List.cons_append]
    conv => lhs; unfold numL
    conv => rhs; unfold numL
    split
    · rfl
    · split
      · rfl
      · exact numL_append base l r _

/-! ### the document's number -/
theorem refDigit_ev (c : Int) (h0 : 0 ≤ c) (h1 : c ≤ 255) : Ev (fun k => abatisref01_digit.f k c) (valI c) := by
  unfold abatisref01_digit.f
  by_cases a : c ≥ 48
  · refine ev_pos a ?_
    by_cases b : c ≤ 57
    · refine Ev.step (fun k => abatisref01_digit.j0.eq_2 ..) (ev_pos (decide_eq_true b) (ev_now ?_))
      rw [val1 a b]; unfold wrap64; omega
    · refine Ev.step (fun k => abatisref01_digit.j0.eq_2 ..) (ev_neg (by simp [b]) ?_)
      by_cases d : c ≥ 97
      · refine ev_pos d ?_
        by_cases e : c ≤ 102
        · refine Ev.step (fun k => abatisref01_digit.j1.eq_2 ..) (ev_pos (decide_eq_true e) (ev_now ?_))
          rw [val2 d e]; unfold wrap64; omega
        · refine Ev.step (fun k => abatisref01_digit.j1.eq_2 ..) (ev_neg (by simp [e]) (ev_pos (by omega) (ev_neg (by omega) (ev_now ?_))))
          rw [val4 (by omega) (by omega) (by omega)]
      · refine ev_neg d (Ev.step (fun k => abatisref01_digit.j1.eq_2 ..) (ev_neg (by simp) ?_))
        by_cases e : c ≥ 65
        · refine ev_pos e ?_
          by_cases g : c ≤ 70
          · refine ev_pos g (ev_now ?_)
            rw [val3 e g]; unfold wrap64; omega
          · refine ev_neg g (ev_now ?_)
            rw [val4 (by omega) (by omega) (by omega)]
        · refine ev_neg e (ev_now ?_)
          rw [val4 (by omega) (by omega) (by omega)]
  · refine ev_neg a ?_
    refine Ev.step (fun k => abatisref01_digit.j0.eq_2 ..) (ev_neg (by simp) (ev_neg (by omega) ?_))
    refine Ev.step (fun k => abatisref01_digit.j1.eq_2 ..) (ev_neg (by simp) (ev_neg (by omega) (ev_now ?_)))
    rw [val4 (by omega) (by omega) (by omega)]
theorem refNumber_loop (s : ByteArray) (base : Int) (hb0 : 2 ≤ base) (hb1 : base ≤ 16) (hs : s.size ≤ 1000) (d : Nat) : ∀ (i : Nat) (n : Int), i + d = s.size → 0 ≤ n → n ≤ 1099511627776 →
    Ev (fun k => abatisref01_Number.l0 k s base n (i : Int)) (numR s (numL base ((bytesOf s).drop i) n)) := by
  induction d with
  | zero =>
    intro i n hi h0 h1
    refine Ev.step (fun k => abatisref01_Number.l0.eq_2 ..) (ev_neg (by omega) (ev_now ?_))
    rw [List.drop_of_length_le (by rw [bytesOf_length]; omega)]
    unfold numL numR
    congr 1
    exact decide_eq_decide.mpr (by omega)
  | succ d ih =>
    intro i n hi h0 h1
    have hlt : i < s.size := by omega
    have hr := bt_range s i
    have hv := valI_range (bt s i)
    have e : wrap64 ((i : Int) + 1) = ((i + 1 : Nat) : Int) := by unfold wrap64; omega
    have hm := mul_small n base h0 h1 (by omega) (by omega)
    have e1 : wrap64 ((wrap64 (n * base)) + valI (bt s i)) = n * base + valI (bt s i) := by
      generalize n * base = q at hm ⊢
      generalize valI (bt s i) = v at hv ⊢
      unfold wrap64; omega
    rw [bytesOf_drop s i hlt]
    unfold numL
    refine Ev.step (fun k => abatisref01_Number.l0.eq_2 ..) (ev_pos (by omega) (ev_pos (by omega) (Ev.bind (refDigit_ev _ hr.1 hr.2) ?_)))
    by_cases hneg : valI (bt s i) < 0
    · rw [if_pos (Or.inl hneg)]
      exact ev_pos hneg (Ev.step (fun k => abatisref01_Number.j1.eq_2 ..) (ev_pos rfl (ev_now rfl)))
    · refine ev_neg hneg ?_
      by_cases hbig : valI (bt s i) ≥ base
      · rw [if_pos (Or.inr hbig)]
        exact Ev.step (fun k => abatisref01_Number.j1.eq_2 ..) (ev_pos (decide_eq_true hbig) (ev_now rfl))
      · rw [if_neg (fun h => h.elim hneg hbig)]
        refine Ev.step (fun k => abatisref01_Number.j1.eq_2 ..) (ev_neg (by simp [hbig]) ?_)
        rw [e1, e]
        by_cases hfar : 1099511627776 < n * base + valI (bt s i)
        · rw [if_pos hfar]
          exact ev_pos hfar (ev_now rfl)
        · rw [if_neg hfar]
          refine ev_neg hfar (ih (i + 1) _ (by omega) ?_ (by omega))
          have := hm.1
          omega
theorem refNumber_ev (s : ByteArray) (base : Int) (hb0 : 2 ≤ base) (hb1 : base ≤ 16) (hs : s.size ≤ 1000) : Ev (fun k => abatisref01_Number.f k s base) (numR s (numL base (bytesOf s) 0)) := by
  have := refNumber_loop s base hb0 hb1 hs s.size 0 0 (by omega) (by omega) (by omega)
  rw [List.drop_zero] at this
  exact this

/-! ### a number's digits -/
def decS (u : Nat) : ByteArray := ⟨(Lib.decDigits u).toArray⟩
theorem dec_small (u : Nat) (h : u < 10) : Lib.decDigits u = [UInt8.ofNat (48 + u)] := by rw [Lib.decDigits, dif_pos h]
theorem dec_big (u : Nat) (h : ¬ u < 10) : Lib.decDigits u = Lib.decDigits (u / 10) ++ [UInt8.ofNat (48 + u % 10)] := by rw [Lib.decDigits, dif_neg h]
theorem dec_one (d : Nat) (h : d < 10) : strOfNums [(wrap64 (48 + (d : Int))) % 256] = (⟨#[UInt8.ofNat (48 + d)]⟩ : ByteArray) := by
  have e : (wrap64 (48 + (d : Int))) % 256 = ((48 + d : Nat) : Int) := by unfold wrap64; omega
  rw [e]
  unfold strOfNums
  simp only [List.map_cons, List.map_nil, Int.toNat_natCast]
theorem decS_size (u : Nat) (h : u < 10 ^ 19 * 10) : (decS u).size ≤ 21 := by
  have hl : ∀ n u, u < 10 ^ n * 10 → (Lib.decDigits u).length ≤ n + 1 := by
    intro n
    induction n with
    | zero => intro u h; rw [dec_small u (by omega)]; simp
    | succ n ih =>
      intro u h
      by_cases hs : u < 10
      · rw [dec_small u hs]; simp
      · rw [dec_big u hs, List.length_append]
        have h2 : u / 10 < 10 ^ n * 10 := by
          rw [Nat.pow_succ] at h
          omega
        have := ih (u / 10) h2
        simp only [List.length_cons, List.length_nil]
        omega
  have := hl 19 u h
  unfold decS
  rw [← data_length]
  simp only [List.toList_toArray]
  omega
theorem refDecimal_ev (u : Nat) : u ≤ 9223372036854775807 → Ev (fun k => abatisref01_Decimal.f k (u : Int)) (decS u) := by
  induction u using Nat.strongRecOn with
  | _ u ih =>
    intro hu
    have em : Int.tmod (u : Int) 10 = ((u % 10 : Nat) : Int) := by rw [Int.tmod_eq_emod_of_nonneg (Int.natCast_nonneg _)]; rfl
    refine Ev.step (fun k => abatisref01_Decimal.f.eq_2 ..) (ev_neg (by omega) (ev_neg (by omega) (ev_get rfl ?_)))
    rw [em, dec_one _ (Nat.mod_lt _ (by omega))]
    clear em
    by_cases hs : u < 10
    · refine ev_pos (by omega) (ev_now ?_)
      unfold decS
      rw [dec_small u hs, Nat.mod_eq_of_lt hs]
    · have ed : wrap64 (Int.tdiv (u : Int) 10) = ((u / 10 : Nat) : Int) := by
        have h1 : Int.tdiv (u : Int) 10 = ((u / 10 : Nat) : Int) := by
          rw [Int.tdiv_eq_ediv_of_nonneg (Int.natCast_nonneg _)]; rfl
        rw [h1]
        have h2 : u / 10 ≤ u := Nat.div_le_self _ _
        generalize u / 10 = q at h2
        unfold wrap64; omega
      rw [ed]
      clear ed
      have hk := ih (u / 10) (by omega) (by omega)
      have hz := decS_size (u / 10) (by have : (10 : Nat) ^ 19 * 10 = 100000000000000000000 := by decide
                                        omega)
      refine ev_neg (by omega) (Ev.bind hk (ev_pos ?_ (ev_now ?_)))
      · have : (⟨#[UInt8.ofNat (48 + u % 10)]⟩ : ByteArray).size = 1 := rfl
        omega
      · unfold decS
        rw [dec_big u hs]
        apply ByteArray.ext
        simp
theorem itoa_pos (u : Nat) : (⟨(Lib.itoa (u : Int)).toArray⟩ : ByteArray) = decS u := by
  unfold Lib.itoa
  rw [if_neg (by omega), Int.toNat_natCast]; rfl
theorem itoa_neg (u : Nat) (h : 0 < u) : (⟨(Lib.itoa (-(u : Int))).toArray⟩ : ByteArray) = (⟨#[45]⟩ : ByteArray) ++ decS u := by
  unfold Lib.itoa
  rw [if_pos (by omega), Int.natAbs_neg, Int.natAbs_natCast]
  apply ByteArray.ext
  simp [decS]
theorem bytes_decS (u : Nat) : bytesOf (decS u) = (Lib.decDigits u).map fun b => (b.toNat : Int) := by
  unfold bytesOf decS; simp
theorem ofNat_digit (d : Nat) (h : d < 10) : ((UInt8.ofNat (48 + d)).toNat : Int) = 48 + (d : Int) := by
  have : (UInt8.ofNat (48 + d)).toNat = 48 + d := by simp; omega
  rw [this]; omega
theorem num_dec (u : Nat) : numL 10 (bytesOf (decS u)) 0 = if u ≤ 1099511627776 then some (u : Int) else none := by
  rw [bytes_decS]
  induction u using Nat.strongRecOn with
  | _ u ih =>
    by_cases hs : u < 10
    · rw [dec_small u hs, List.map_cons, List.map_nil, ofNat_digit u hs]
      have hv : valI (48 + (u : Int)) = u := by rw [val1 (by omega) (by omega)]; omega
      unfold numL
      rw [hv, if_neg (by omega), if_neg (by omega), if_pos (by omega)]
      show some _ = _
      congr 1
      omega
    · rw [dec_big u hs, List.map_append, numL_append, ih (u / 10) (by omega), List.map_cons, List.map_nil, ofNat_digit _ (Nat.mod_lt _ (by omega))]
      have hm : u % 10 < 10 := Nat.mod_lt _ (by omega)
      have hdm : u / 10 * 10 + u % 10 = u := by omega
      generalize u / 10 = q at hdm
      generalize u % 10 = z at hdm hm
      have hv : valI (48 + (z : Int)) = z := by rw [val1 (by omega) (by omega)]; omega
      by_cases hq : q ≤ 1099511627776
      · rw [if_pos hq]
        show numL 10 [48 + (z : Int)] (q : Int) = _
        unfold numL
        rw [hv, if_neg (by omega)]
        by_cases hu : u ≤ 1099511627776
        · rw [if_pos hu, if_neg (by omega)]
          show some _ = _
          congr 1
          omega
        · rw [if_neg hu, if_pos (by omega)]
      · rw [if_neg hq, if_neg (by omega)]
        rfl
theorem decS_pos (u : Nat) : 0 < (decS u).size := by
  unfold decS
  rw [← data_length]
  simp only [List.toList_toArray]
  by_cases hs : u < 10
  · rw [dec_small u hs]; simp
  · rw [dec_big u hs]; simp
theorem min_dec : (⟨#[45]⟩ : ByteArray) ++ decS 9223372036854775808 = (⟨#[45, 57, 50, 50, 51, 51, 55, 50, 48, 51, 54, 56, 53, 52, 55, 55, 53, 56, 48, 56]⟩ : ByteArray) := by
  have : Lib.decDigits 9223372036854775808 = [57, 50, 50, 51, 51, 55, 50, 48, 51, 54, 56, 53, 52, 55, 55, 53, 56, 48, 56] := by
    rw [dec_big _ (by decide), dec_big _ (by decide), dec_big _ (by decide), dec_big _ (by decide), dec_big _ (by decide), dec_big _ (by decide), dec_big _ (by decide), dec_big _ (by decide), dec_big _ (by decide),
      dec_big _ (by decide), dec_big _ (by decide), dec_big _ (by decide), dec_big _ (by decide), dec_big _ (by decide), dec_big _ (by decide), dec_big _ (by decide), dec_big _ (by decide), dec_big _ (by decide), dec_small _ (by decide)]
    decide +kernel
  apply ByteArray.ext
  unfold decS
  rw [this]
  decide +kernel
/-- A number's digits, as the document's, for every int. -/
theorem refDecimal_all (n : Int) (h0 : -9223372036854775808 ≤ n) (h1 : n ≤ 9223372036854775807) : Ev (fun k => abatisref01_Decimal.f k n) (⟨(Lib.itoa n).toArray⟩ : ByteArray) := by
  by_cases hp : 0 ≤ n
  · obtain ⟨u, rfl⟩ := Int.eq_ofNat_of_zero_le hp
    rw [itoa_pos]
    exact refDecimal_ev u (by omega)
  · obtain ⟨u, rfl⟩ : ∃ u : Nat, n = -(u : Int) := ⟨n.natAbs, by omega⟩
    rw [itoa_neg u (by omega)]
    by_cases hm : u = 9223372036854775808
    · subst hm
      rw [min_dec]
      exact Ev.step (fun k => abatisref01_Decimal.f.eq_2 ..) (ev_pos (by omega) (ev_now rfl))
    · have e : wrap64 (-(-(u : Int))) = (u : Int) := by unfold wrap64; omega
      refine Ev.step (fun k => abatisref01_Decimal.f.eq_2 ..) (ev_neg (by omega) (ev_pos (by omega) ?_))
      rw [e]
      have hz := decS_size u (by have : (10 : Nat) ^ 19 * 10 = 100000000000000000000 := by decide
                                 omega)
      exact Ev.bind (refDecimal_ev u (by omega)) (ev_pos (by omega) (ev_now rfl))
theorem Decimal_eq (n : Int) (h0 : -9223372036854775808 ≤ n) (h1 : n ≤ 9223372036854775807) : text_Decimal.f n = some (⟨(Lib.itoa n).toArray⟩ : ByteArray) := by
  unfold text_Decimal.f
  rw [if_pos ⟨h0, h1⟩]

theorem numbers_loop (s : ByteArray) (n : Int) (hs : s.size ≤ 40) (h0 : -9223372036854775808 ≤ n) (h1 : n ≤ 9223372036854775807) : Ev (fun k => abatislaw01_TextNumbers.l0 k s n ([8, 10, 16] : List Int) 0) true := by
  have e3 : Ev (fun k => abatislaw01_TextNumbers.l0 k s n ([8, 10, 16] : List Int) 3) true := by
    refine Ev.step (fun k => abatislaw01_TextNumbers.l0.eq_2 ..) (ev_neg (by omega) (ev_get (Decimal_eq n h0 h1) (ev_get (Number_eq _ 10 (by omega) (by omega)) ?_)))
    have hd := refDecimal_all n h0 h1
    by_cases hp : 0 ≤ n
    · obtain ⟨u, rfl⟩ := Int.eq_ofNat_of_zero_le hp
      rw [itoa_pos] at hd ⊢
      rw [num_dec]
      refine ev_pos hp (Ev.bind hd (ev_pos rfl ?_))
      have hpos := decS_pos u
      by_cases hf : u ≤ 1099511627776
      · rw [if_pos hf]
        have t1 : decide (0 < (decS u).size) = true := decide_eq_true hpos
        have t2 : decide ((u : Int) ≤ 1099511627776) = true := decide_eq_true (by omega)
        refine ev_pos ?_ (ev_pos (by omega) (ev_pos rfl (Ev.bind lives01_ev (Ev.now _))))
        show (decide (0 < (decS u).size) == decide ((u : Int) ≤ 1099511627776)) = true
        rw [t1, t2]; rfl
      · rw [if_neg hf]
        have t2 : decide ((u : Int) ≤ 1099511627776) = false := decide_eq_false (by omega)
        refine ev_pos ?_ (ev_neg (by omega) (Ev.bind lives01_ev (Ev.now _)))
        show (false == decide ((u : Int) ≤ 1099511627776)) = true
        rw [t2]; rfl
    · obtain ⟨u, rfl⟩ : ∃ u : Nat, n = -(u : Int) := ⟨n.natAbs, by omega⟩
      rw [itoa_neg u (by omega)] at hd ⊢
      have hn : numL 10 (bytesOf ((⟨#[45]⟩ : ByteArray) ++ decS u)) 0 = none := by
        rw [bytesOf_append, numL_append]
        have : numL 10 (bytesOf (⟨#[45]⟩ : ByteArray)) 0 = none := by decide
        rw [this]; rfl
      rw [hn]
      exact ev_neg hp (Ev.bind hd (ev_pos rfl (ev_pos rfl (Ev.bind lives01_ev (Ev.now _)))))
  have go : ∀ (idx base nx : Int), wrap64 (idx + 1) = nx → 0 ≤ idx → idx < 3 → rd ([8, 10, 16] : List Int) idx = base → 2 ≤ base → base ≤ 16 →
      Ev (fun k => abatislaw01_TextNumbers.l0 k s n ([8, 10, 16] : List Int) nx) true → Ev (fun k => abatislaw01_TextNumbers.l0 k s n ([8, 10, 16] : List Int) idx) true := by
    intro idx base nx hx i0 i1 hb b0 b1 hk
    refine Ev.step (fun k => abatislaw01_TextNumbers.l0.eq_2 ..) (ev_pos i1 (ev_pos i0 (ev_pos (by simpa using i1) ?_)))
    rw [hb, hx]
    refine ev_get (Number_eq s base (by omega) (by omega)) (Ev.bind (refNumber_ev s base b0 b1 (by omega)) (ev_pos rfl (ev_neg ?_ hk)))
    simp
  have e2 := go 2 16 3 (by unfold wrap64; omega) (by omega) (by omega) rfl (by omega) (by omega) e3
  have e1 := go 1 10 2 (by unfold wrap64; omega) (by omega) (by omega) rfl (by omega) (by omega) e2
  exact go 0 8 1 (by unfold wrap64; omega) (by omega) (by omega) rfl (by omega) (by omega) e1
theorem TextNumbers_ev (s : ByteArray) (n : Int) (hn : (Lit.int .i64 n).wf = true) : Ev (fun k => abatislaw01_TextNumbers.f k s n) true := by
  have hb : -9223372036854775808 ≤ n ∧ n ≤ 9223372036854775807 := by
    simp [Lit.wf] at hn
    exact hn
  unfold abatislaw01_TextNumbers.f
  exact ev_get (Few_eq s 40) (numbers_loop _ n (few_size s 40) hb.1 hb.2)
end Go.Proofs.YtcpeecacoblbhaaDoor.P
