/-
  Plain law: numbers, and the groups of an address, answer (EvP), whatever the text.
-/
import Derived.Lib.ItoaNum
import Derived.Test.YthjhbhgfckaklaaDoorM4
import Derived.Test.YthjhbhgfckaklaaDoorM2
import Derived.Test.YthjhbhgfckaklaaDoorM3
namespace Go.Proofs.YthjhbhgfckaklaaDoor.P
open Go.RowKit Go.Proofs.YthjhbhgfckaklaaDoorW.PrintWords Go.Proofs.YthjhbhgfckaklaaDoorW.PrintLast Go.Proofs.YthjhbhgfckaklaaDoorW.PrintMore
set_option linter.unusedVariables false
set_option linter.unusedSimpArgs false
/-! ### decimals -/
def decS (u : Nat) : ByteArray := ⟨(Lib.decDigits u).toArray⟩
theorem dec_small (u : Nat) (h : u < 10) : Lib.decDigits u = [UInt8.ofNat (48 + u)] := by rw [Lib.decDigits, dif_pos h]
theorem dec_big (u : Nat) (h : ¬ u < 10) : Lib.decDigits u = Lib.decDigits (u / 10) ++ [UInt8.ofNat (48 + u % 10)] := by rw [Lib.decDigits, dif_neg h]
theorem dec_one (d : Nat) (h : d < 10) : strOfNums [(wrap64 (48 + (d : Int))) % 256] = (⟨#[UInt8.ofNat (48 + d)]⟩ : ByteArray) := by
  have e : (wrap64 (48 + (d : Int))) % 256 = ((48 + d : Nat) : Int) := by unfold wrap64; omega
  rw [e]
  unfold strOfNums
  simp only [List.map_cons, List.map_nil, Int.toNat_natCast]
theorem decS_size (u : Nat) (h : u < 10 ^ 19 * 10) : (decS u).size ≤ 21 := by
  have hl : ∀ n u, u < 10 ^ n * 10 → (Lib.decDigits u).length ≤ n + 1 := by
    intro n
    induction n with
    | zero => intro u h; rw [dec_small u (by omega)]; simp
    | succ n ih =>
      intro u h
      by_cases hs : u < 10
      · rw [dec_small u hs]; simp
      · rw [dec_big u hs, List.length_append]
        have h2 : u / 10 < 10 ^ n * 10 := by
          rw [Nat.pow_succ] at h
          omega
        have := ih (u / 10) h2
        simp only [List.length_cons, List.length_nil]
        omega
  have := hl 19 u h
  unfold decS
  rw [← data_length]
  simp only [List.toList_toArray]
  omega
theorem refDecimal_ev (u : Nat) : u ≤ 9223372036854775807 → Ev (fun k => r01_Decimal.f k (u : Int)) (decS u) := by
  induction u using Nat.strongRecOn with
  | _ u ih =>
    intro hu
    have em : Int.tmod (u : Int) 10 = ((u % 10 : Nat) : Int) := by rw [Int.tmod_eq_emod_of_nonneg (Int.natCast_nonneg _)]; rfl
    refine Ev.step (fun k => r01_Decimal.f.eq_2 ..) (ev_neg (by omega) (ev_neg (by omega) (ev_get rfl ?_)))
    rw [em, dec_one _ (Nat.mod_lt _ (by omega))]
    clear em
    by_cases hs : u < 10
    · refine ev_pos (by omega) (ev_now ?_)
      unfold decS
      rw [dec_small u hs, Nat.mod_eq_of_lt hs]
    · have ed : wrap64 (Int.tdiv (u : Int) 10) = ((u / 10 : Nat) : Int) := by
        have h1 : Int.tdiv (u : Int) 10 = ((u / 10 : Nat) : Int) := by
          rw [Int.tdiv_eq_ediv_of_nonneg (Int.natCast_nonneg _)]; rfl
        rw [h1]
        have h2 : u / 10 ≤ u := Nat.div_le_self _ _
        generalize u / 10 = q at h2
        unfold wrap64; omega
      rw [ed]
      clear ed
      have hk := ih (u / 10) (by omega) (by omega)
      have hz := decS_size (u / 10) (by have : (10 : Nat) ^ 19 * 10 = 100000000000000000000 := by decide
                                        omega)
      refine ev_neg (by omega) (Ev.bind hk (ev_pos ?_ (ev_now ?_)))
      · have : (⟨#[UInt8.ofNat (48 + u % 10)]⟩ : ByteArray).size = 1 := rfl
        omega
      · unfold decS
        rw [dec_big u hs]
        apply ByteArray.ext
        simp
theorem wrap_small (z : Int) (h0 : -9223372036854775808 ≤ z) (h1 : z ≤ 9223372036854775807) : wrap64 z = z := by unfold wrap64; omega
theorem wrap_next1 (i : Nat) (h : i ≤ 1000000) : wrap64 ((i : Int) + 1) = ((i + 1 : Nat) : Int) := by unfold wrap64; omega
/-! ### digits and numbers -/
theorem digit_evp (c : Int) (h0 : 0 ≤ c) (h1 : c ≤ 255) : EvP (fun k => r01_digit.f k c) (fun v => -1 ≤ v ∧ v ≤ 15) := by
  have w0 : wrap64 c = c := wrap_small c (by omega) (by omega)
  have hj1 : ∀ b : Bool, (b = true → 97 ≤ c ∧ c ≤ 102) → EvP (fun k => r01_digit.j1 k c b) (fun v => -1 ≤ v ∧ v ≤ 15) := by
    intro b hb
    refine evp_step (fun k => r01_digit.j1.eq_2 ..) (evp_ite (fun hc => evp_now ?_) (fun _ => evp_ite (fun h2 => evp_ite (fun h3 => evp_now ?_) (fun _ => evp_now (by omega))) (fun _ => evp_now (by omega))))
    · have := hb hc; rw [w0, wrap_small _ (by omega) (by omega)]; omega
    · rw [w0, wrap_small _ (by omega) (by omega)]; omega
  have hj0 : ∀ b : Bool, (b = true → 48 ≤ c ∧ c ≤ 57) → EvP (fun k => r01_digit.j0 k c b) (fun v => -1 ≤ v ∧ v ≤ 15) := by
    intro b hb
    refine evp_step (fun k => r01_digit.j0.eq_2 ..) (evp_ite (fun hc => evp_now ?_) (fun _ => evp_ite (fun h2 => hj1 _ (fun h3 => ⟨h2, of_decide_eq_true h3⟩)) (fun _ => hj1 _ (fun h => by simp at h))))
    have := hb hc; rw [w0, wrap_small _ (by omega) (by omega)]; omega
  exact evp_ite (fun h2 => hj0 _ (fun h3 => ⟨h2, of_decide_eq_true h3⟩)) (fun _ => hj0 _ (fun h => by simp at h))
def NumOk (r : Int × Bool) : Prop := 0 ≤ r.1 ∧ r.1 ≤ 1099511627776
theorem number_loop (s : ByteArray) (base : Int) (hb0 : 2 ≤ base) (hb1 : base ≤ 16) (hs : s.size ≤ 1000) (d : Nat) : ∀ (i : Nat) (n : Int), i + d = s.size → 0 ≤ n → n ≤ 1099511627776 → EvP (fun k => r01_Number.l0 k s base n (i : Int)) NumOk := by
  induction d with
  | zero =>
    intro i n hi h0 h1
    exact evp_step (fun k => r01_Number.l0.eq_2 ..) (evp_neg (by omega) (evp_now ⟨h0, h1⟩))
  | succ d ih =>
    intro i n hi h0 h1
    have hr := bt_range s (i : Int)
    refine evp_step (fun k => r01_Number.l0.eq_2 ..) (evp_pos (by omega) (evp_pos (by omega) (evp_bind (digit_evp _ hr.1 hr.2) (fun v hv => ?_))))
    have hm0 : 0 ≤ n * base := Int.mul_nonneg h0 (by omega)
    have hm1 : n * base ≤ 1099511627776 * 16 := Int.mul_le_mul h1 hb1 (by omega) (by omega)
    have hj : ∀ b : Bool, (v < 0 → b = true) → EvP (fun k => r01_Number.j1 k s base n (i : Int) v b) NumOk := by
      intro b hb
      refine evp_step (fun k => r01_Number.j1.eq_2 ..) (evp_ite (fun _ => evp_now ⟨by show (0 : Int) ≤ 0; omega, by show (0 : Int) ≤ 1099511627776; omega⟩) (fun hc => ?_))
      have hv0 : 0 ≤ v := by
        rcases Int.lt_or_le v 0 with h | h
        · exact absurd (hb h) hc
        · exact h
      have w1 : wrap64 (n * base) = n * base := wrap_small _ (by omega) (by omega)
      have w2 : wrap64 (n * base + v) = n * base + v := wrap_small _ (by omega) (by omega)
      rw [w1, w2, wrap_next1 i (by omega)]
      exact evp_ite (fun _ => evp_now ⟨by show (0 : Int) ≤ 0; omega, by show (0 : Int) ≤ 1099511627776; omega⟩) (fun h3 => ih (i + 1) _ (by omega) (by omega) (by omega))
    exact evp_ite (fun _ => hj true (fun _ => rfl)) (fun h => hj _ (fun h' => absurd h' h))
theorem number_evp (s : ByteArray) (base : Int) (hb0 : 2 ≤ base) (hb1 : base ≤ 16) (hs : s.size ≤ 1000) : EvP (fun k => r01_Number.f k s base) NumOk := number_loop s base hb0 hb1 hs s.size 0 0 (by omega) (by omega) (by omega)
theorem extract_size (s : ByteArray) (a b n : Nat) (h : s.size ≤ n) : (s.extract a b).size ≤ n := by rw [ByteArray.size_extract]; omega
theorem mn_le (a b : Int) : mn a b ≤ b := by unfold mn; split <;> omega
theorem mn_ge (a b c : Int) (h0 : c ≤ a) (h1 : c ≤ b) : c ≤ mn a b := by unfold mn; split <;> omega
/-! ### a part of an address of 32 bits -/
def In32 (n : Int) : Prop := -1 ≤ n ∧ n ≤ 4294967296
theorem digits_loop (s : ByteArray) (base : Int) (hb0 : 2 ≤ base) (hb1 : base ≤ 16) (hs : s.size ≤ 1000) (d : Nat) : ∀ (i : Nat) (n : Int), i + d = s.size → 0 ≤ n → n ≤ 4294967296 → EvP (fun k => r02_digits.l0 k s base n (i : Int)) In32 := by
  induction d with
  | zero =>
    intro i n hi h0 h1
    exact evp_step (fun k => r02_digits.l0.eq_2 ..) (evp_neg (by omega) (evp_now ⟨by omega, h1⟩))
  | succ d ih =>
    intro i n hi h0 h1
    refine evp_step (fun k => r02_digits.l0.eq_2 ..) ?_
    rw [wrap_next1 i (by omega)]
    refine evp_pos (by omega) (evp_pos (by omega) (evp_pos (by omega) (evp_pos (by omega) (evp_bind (number_evp _ base hb0 hb1 (extract_size s _ _ 1000 hs)) (fun r hr => ?_)))))
    have hm0 : 0 ≤ n * base := Int.mul_nonneg h0 (by omega)
    have hm1 : n * base ≤ 4294967296 * 16 := Int.mul_le_mul h1 hb1 (by omega) (by omega)
    have hr0 := hr.1
    have hr1 := hr.2
    have w1 : wrap64 (n * base) = n * base := wrap_small _ (by omega) (by omega)
    have w2 : wrap64 (n * base + r.1) = n * base + r.1 := wrap_small _ (by omega) (by omega)
    rw [w1, w2]
    exact evp_ite (fun _ => ih (i + 1) _ (by omega) (mn_ge _ _ _ (by omega) (by omega)) (mn_le _ _)) (fun _ => evp_now ⟨by omega, by omega⟩)
theorem digits_evp (s : ByteArray) (base : Int) (hb0 : 2 ≤ base) (hb1 : base ≤ 16) (hs : s.size ≤ 1000) : EvP (fun k => r02_digits.f k s base) In32 := digits_loop s base hb0 hb1 hs s.size 0 0 (by omega) (by omega) (by omega)
theorem part_evp (s : ByteArray) (hs : s.size ≤ 1000) : EvP (fun k => r02_Part.f k s) In32 := by
  have hj1 : ∀ b : Bool, (b = true → 1 ≤ (s.size : Int)) → EvP (fun k => r02_Part.j1 k s b) In32 := fun b hb =>
    evp_step (fun k => r02_Part.j1.eq_2 ..) (evp_ite (fun h => evp_pos (hb h) (evp_bind (digits_evp _ 8 (by omega) (by omega) (extract_size s _ _ 1000 hs)) (fun _ hq => evp_now hq)))
      (fun _ => evp_bind (digits_evp _ 10 (by omega) (by omega) hs) (fun _ hq => evp_now hq)))
  have hj0 : ∀ b : Bool, (b = true → 2 ≤ (s.size : Int)) → EvP (fun k => r02_Part.j0 k s b) In32 := fun b hb =>
    evp_step (fun k => r02_Part.j0.eq_2 ..) (evp_ite (fun h => evp_pos (hb h) (evp_bind (digits_evp _ 16 (by omega) (by omega) (extract_size s _ _ 1000 hs)) (fun _ hq => evp_now hq)))
      (fun _ => evp_ite (fun h => evp_pos (by omega) (hj1 _ (fun _ => by omega))) (fun _ => hj1 _ (fun h => by simp at h))))
  exact evp_ite (fun _ => evp_now ⟨by omega, by omega⟩) (fun _ => evp_ite (fun h => evp_pos (by omega) (evp_ite (fun _ => evp_pos (by omega) (evp_ite (fun _ => hj0 _ (fun _ => by omega)) (fun _ => hj0 _ (fun _ => by omega)))) (fun _ => hj0 _ (fun h => by simp at h)))) (fun _ => hj0 _ (fun h => by simp at h)))
/-! ### pieces -/
def PiecesOk (n : Nat) (l : List ByteArray) : Prop := 1 ≤ l.length ∧ l.length ≤ n + 1 ∧ ∀ p ∈ l, p.size ≤ n
theorem split_loop (s : ByteArray) (c : Int) (n : Nat) (hs : s.size ≤ n) (hn : n ≤ 1000) (d : Nat) : ∀ (i j : Nat) (l : List ByteArray), i + d = s.size → j ≤ i → l.length ≤ i → (∀ p ∈ l, p.size ≤ n) → EvP (fun k => r01_Split.l0 k s c l (j : Int) (i : Int)) (PiecesOk n) := by
  induction d with
  | zero =>
    intro i j l hi hj hl hp
    refine evp_step (fun k => r01_Split.l0.eq_2 ..) (evp_neg (by omega) (evp_pos (by omega) (evp_pos (by omega) (evp_pos (by omega) (evp_now ⟨by simp, by simp; omega, fun p hp' => ?_⟩)))))
    rcases List.mem_append.1 hp' with h | h
    · exact hp p h
    · rw [List.mem_singleton.1 h]; exact extract_size s _ _ n hs
  | succ d ih =>
    intro i j l hi hj hl hp
    refine evp_step (fun k => r01_Split.l0.eq_2 ..) ?_
    rw [wrap_next1 i (by omega)]
    refine evp_pos (by omega) (evp_pos (by omega) (evp_ite (fun _ => evp_pos (by omega) (evp_pos (by omega) (evp_pos (by omega) (evp_pos (by omega) (ih (i + 1) (i + 1) _ (by omega) (Nat.le_refl _) (by simp; omega) (fun p hp' => ?_)))))) (fun _ => ih (i + 1) j l (by omega) (by omega) (by omega) hp)))
    rcases List.mem_append.1 hp' with h | h
    · exact hp p h
    · rw [List.mem_singleton.1 h]; exact extract_size s _ _ n hs
theorem split_evp (s : ByteArray) (c : Int) (n : Nat) (hs : s.size ≤ n) (hn : n ≤ 1000) : EvP (fun k => r01_Split.f k s c) (PiecesOk n) := split_loop s c n hs hn s.size 0 0 [] (by omega) (by omega) (by simp) (by simp)
end Go.Proofs.YthjhbhgfckaklaaDoor.P
