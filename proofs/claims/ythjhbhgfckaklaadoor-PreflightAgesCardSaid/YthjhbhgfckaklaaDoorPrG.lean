/-
  Plain laws, put together by mkpl.py.
-/
import Derived.Lib.ItoaNum
import Derived.Test.YthjhbhgfckaklaaDoorMTxt
import Derived.Test.YthjhbhgfckaklaaDoorPreA
import Derived.Test.YthjhbhgfckaklaaDoorPR1
import Derived.Test.YthjhbhgfckaklaaDoorPA1
import Derived.Test.YthjhbhgfckaklaaDoorPQ2
namespace Go.Proofs.YthjhbhgfckaklaaDoor.P
open Go.RowKit Go.Proofs.YthjhbhgfckaklaaDoorW.PrintWords Go.Proofs.YthjhbhgfckaklaaDoorW.PrintLast Go.Proofs.YthjhbhgfckaklaaDoorW.PrintMore
set_option linter.unusedVariables false
set_option linter.unusedSimpArgs false

def few (s : ByteArray) (n : Nat) : ByteArray := if n < s.size then s.extract 0 n else s
theorem few_size (s : ByteArray) (n : Nat) : (few s n).size ≤ n := by
  unfold few
  split
  · rw [ByteArray.size_extract]; omega
  · omega
theorem Few_eq (s : ByteArray) (n : Nat) : abatisref01_Few.f s (n : Int) = some (few s n) := by
  unfold abatisref01_Few.f few
  by_cases h : n < s.size
  · rw [if_pos (by omega), if_pos (by omega), if_pos (by omega), if_pos h]; simp
  · rw [if_neg (by omega), if_neg h]
/-- The number of a list of digits, behind a number that was told so far. -/
def numL (base : Int) : List Int → Int → Option Int
  | [], n => some n
  | c :: l, n => if valI c < 0 ∨ base ≤ valI c then none else if 1099511627776 < n * base + valI c then none else numL base l (n * base + valI c)
def numR (s : ByteArray) : Option Int → Int × Bool
  | some v => (v, decide (0 < s.size))
  | none => (0, false)
theorem valI_high (c : Int) (h : 103 ≤ c) : valI c = -1 := by
  unfold valI; rw [if_neg (by omega), if_neg (by omega), if_neg (by omega)]
theorem numFrom_L (s : ByteArray) (base : Int) (d : Nat) : ∀ (pos f : Nat) (n : Int), pos + d = s.size → d ≤ f → numFrom s base f pos n = numR s (numL base ((bytesOf s).drop pos) n) := by
  induction d with
  | zero =>
    intro pos f n hp hf
    rw [numFrom_end s base f pos n (by omega), List.drop_of_length_le (by rw [bytesOf_length]; omega)]
    rfl
  | succ d ih =>
    intro pos f n hp hf
    have hlt : pos < s.size := by omega
    obtain ⟨f, rfl⟩ : ∃ g, f = g + 1 := ⟨f - 1, by omega⟩
    rw [bytesOf_drop s pos hlt]
    by_cases hb : (s[pos]'hlt).toNat < 128
    · have hd := decode_ascii s pos hlt hb
      have h1 : ((Utf8.decode s pos).1 : Int) = bt s pos := by rw [hd, bt_get s pos hlt]
      have h2 : (Utf8.decode s pos).2 = 1 := by rw [hd]
      unfold numL
      by_cases hbad : valI (bt s pos) < 0 ∨ base ≤ valI (bt s pos)
      · rw [if_pos hbad, numFrom_bad s base f pos n hlt (by rw [h1]; exact hbad)]; rfl
      · rw [if_neg hbad]
        by_cases hfar : 1099511627776 < n * base + valI (bt s pos)
        · rw [if_pos hfar, numFrom_far s base f pos n hlt (by rw [h1]; exact hbad) (by rw [h1]; exact hfar)]; rfl
        · rw [if_neg hfar, numFrom_step s base f pos n hlt (by rw [h1]; exact hbad) (by rw [h1]; exact hfar), h1, h2]
          exact ih (pos + 1) f _ (by omega) (by omega)
    · have hh := (decode_high s pos hlt (by omega)).1
      have h1 : valI ((Utf8.decode s pos).1 : Int) = -1 := valI_high _ (by omega)
      have h2 : valI (bt s pos) = -1 := valI_high _ (by rw [bt_get s pos hlt]; omega)
      unfold numL
      rw [numFrom_bad s base f pos n hlt (.inl (by rw [h1]; omega)), if_pos (.inl (by rw [h2]; omega))]
      rfl
theorem Number_eq (s : ByteArray) (base : Int) (h0 : 0 ≤ base) (h1 : base ≤ 1000) : text_Number.f s base = some (numR s (numL base (bytesOf s) 0)) := by
  unfold text_Number.f
  rw [if_pos ⟨h0, h1⟩, numFrom_L s base s.size 0 s.size 0 (by omega) (by omega), List.drop_zero]
theorem numL_append (base : Int) : ∀ (l r : List Int) (n : Int), numL base (l ++ r) n = (numL base l n).bind (numL base r)
  | [], r, n => rfl
  | c :: l, r, n => by
    rw [List.cons_append]
    conv => lhs; unfold numL
    conv => rhs; unfold numL
    split
    · rfl
    · split
      · rfl
      · exact numL_append base l r _
/-! ### a number's digits -/
def decS (u : Nat) : ByteArray := ⟨(Lib.decDigits u).toArray⟩
theorem dec_small (u : Nat) (h : u < 10) : Lib.decDigits u = [UInt8.ofNat (48 + u)] := by rw [Lib.decDigits, dif_pos h]
theorem dec_big (u : Nat) (h : ¬ u < 10) : Lib.decDigits u = Lib.decDigits (u / 10) ++ [UInt8.ofNat (48 + u % 10)] := by rw [Lib.decDigits, dif_neg h]
theorem dec_one (d : Nat) (h : d < 10) : strOfNums [(wrap64 (48 + (d : Int))) % 256] = (⟨#[UInt8.ofNat (48 + d)]⟩ : ByteArray) := by
  have e : (wrap64 (48 + (d : Int))) % 256 = ((48 + d : Nat) : Int) := by unfold wrap64; omega
  rw [e]
  unfold strOfNums
  simp only [List.map_cons, List.map_nil, Int.toNat_natCast]
theorem decS_size (u : Nat) (h : u < 10 ^ 19 * 10) : (decS u).size ≤ 21 := by
  have hl : ∀ n u, u < 10 ^ n * 10 → (Lib.decDigits u).length ≤ n + 1 := by
    intro n
    induction n with
    | zero => intro u h; rw [dec_small u (by omega)]; simp
    | succ n ih =>
      intro u h
      by_cases hs : u < 10
      · rw [dec_small u hs]; simp
      · rw [dec_big u hs, List.length_append]
        have h2 : u / 10 < 10 ^ n * 10 := by
          rw [Nat.pow_succ] at h
          omega
        have := ih (u / 10) h2
        simp only [List.length_cons, List.length_nil]
        omega
  have := hl 19 u h
  unfold decS
  rw [← data_length]
  simp only [List.toList_toArray]
  omega
theorem refDecimal_ev (u : Nat) : u ≤ 9223372036854775807 → Ev (fun k => abatisref01_Decimal.f k (u : Int)) (decS u) := by
  induction u using Nat.strongRecOn with
  | _ u ih =>
    intro hu
    have em : Int.tmod (u : Int) 10 = ((u % 10 : Nat) : Int) := by rw [Int.tmod_eq_emod_of_nonneg (Int.natCast_nonneg _)]; rfl
    refine Ev.step (fun k => abatisref01_Decimal.f.eq_2 ..) (ev_neg (by omega) (ev_neg (by omega) (ev_get rfl ?_)))
    rw [em, dec_one _ (Nat.mod_lt _ (by omega))]
    clear em
    by_cases hs : u < 10
    · refine ev_pos (by omega) (ev_now ?_)
      unfold decS
      rw [dec_small u hs, Nat.mod_eq_of_lt hs]
    · have ed : wrap64 (Int.tdiv (u : Int) 10) = ((u / 10 : Nat) : Int) := by
        have h1 : Int.tdiv (u : Int) 10 = ((u / 10 : Nat) : Int) := by
          rw [Int.tdiv_eq_ediv_of_nonneg (Int.natCast_nonneg _)]; rfl
        rw [h1]
        have h2 : u / 10 ≤ u := Nat.div_le_self _ _
        generalize u / 10 = q at h2
        unfold wrap64; omega
      rw [ed]
      clear ed
      have hk := ih (u / 10) (by omega) (by omega)
      have hz := decS_size (u / 10) (by have : (10 : Nat) ^ 19 * 10 = 100000000000000000000 := by decide
                                        omega)
      refine ev_neg (by omega) (Ev.bind hk (ev_pos ?_ (ev_now ?_)))
      · have : (⟨#[UInt8.ofNat (48 + u % 10)]⟩ : ByteArray).size = 1 := rfl
        omega
      · unfold decS
        rw [dec_big u hs]
        apply ByteArray.ext
        simp
theorem bytes_decS (u : Nat) : bytesOf (decS u) = (Lib.decDigits u).map fun b => (b.toNat : Int) := by
  unfold bytesOf decS; simp
theorem ofNat_digit (d : Nat) (h : d < 10) : ((UInt8.ofNat (48 + d)).toNat : Int) = 48 + (d : Int) := by
  have : (UInt8.ofNat (48 + d)).toNat = 48 + d := by simp; omega
  rw [this]; omega
theorem num_dec (u : Nat) : numL 10 (bytesOf (decS u)) 0 = if u ≤ 1099511627776 then some (u : Int) else none := by
  rw [bytes_decS]
  induction u using Nat.strongRecOn with
  | _ u ih =>
    by_cases hs : u < 10
    · rw [dec_small u hs, List.map_cons, List.map_nil, ofNat_digit u hs]
      have hv : valI (48 + (u : Int)) = u := by rw [val1 (by omega) (by omega)]; omega
      unfold numL
      rw [hv, if_neg (by omega), if_neg (by omega), if_pos (by omega)]
      show some _ = _
      congr 1
      omega
    · rw [dec_big u hs, List.map_append, numL_append, ih (u / 10) (by omega), List.map_cons, List.map_nil, ofNat_digit _ (Nat.mod_lt _ (by omega))]
      have hm : u % 10 < 10 := Nat.mod_lt _ (by omega)
      have hdm : u / 10 * 10 + u % 10 = u := by omega
      generalize u / 10 = q at hdm
      generalize u % 10 = z at hdm hm
      have hv : valI (48 + (z : Int)) = z := by rw [val1 (by omega) (by omega)]; omega
      by_cases hq : q ≤ 1099511627776
      · rw [if_pos hq]
        show numL 10 [48 + (z : Int)] (q : Int) = _
        unfold numL
        rw [hv, if_neg (by omega)]
        by_cases hu : u ≤ 1099511627776
        · rw [if_pos hu, if_neg (by omega)]
          show some _ = _
          congr 1
          omega
        · rw [if_neg hu, if_pos (by omega)]
      · rw [if_neg hq, if_neg (by omega)]
        rfl
theorem decS_pos (u : Nat) : 0 < (decS u).size := by
  unfold decS
  rw [← data_length]
  simp only [List.toList_toArray]
  by_cases hs : u < 10
  · rw [dec_small u hs]; simp
  · rw [dec_big u hs]; simp
end Go.Proofs.YthjhbhgfckaklaaDoor.P
