/-
  Masks that may be; what a prefix adds: plain.
-/
import Derived.Test.YtjilnigmbnmlfaaGreatDoorSpaT
namespace Go.Proofs.YtjilnigmbnmlfaaGreatDoor.P
open Go.RowKit Go.Proofs.YtjilnigmbnmlfaaGreatDoorW.PrintWords Go.Proofs.YtjilnigmbnmlfaaGreatDoorW.PrintLast Go.Proofs.YtjilnigmbnmlfaaGreatDoorW.PrintMore
set_option linter.unusedVariables false
set_option linter.unusedSimpArgs false
/-- Bits, put behind one another. -/
def accB (x : Nat → Int) : Nat → Int
  | 0 => 0
  | r + 1 => accB x r * 2 + x r
theorem acc_small {x : Nat → Int} (hx : ∀ t, x t = 0 ∨ x t = 1) {r : Nat} (h : r ≤ 7) : 0 ≤ accB x r ∧ accB x r ≤ 127 := by
  have h0 := hx 0
  have h1 := hx 1
  have h2 := hx 2
  have h3 := hx 3
  have h4 := hx 4
  have h5 := hx 5
  have h6 := hx 6
  have hr : r = 0 ∨ r = 1 ∨ r = 2 ∨ r = 3 ∨ r = 4 ∨ r = 5 ∨ r = 6 ∨ r = 7 := by omega
  rcases hr with rfl | rfl | rfl | rfl | rfl | rfl | rfl | rfl <;> simp only [accB] <;> omega
theorem acc_bit {x : Nat → Int} (hx : ∀ t, x t = 0 ∨ x t = 1) {t : Nat} (ht : t < 8) : bit8 (accB x 8).toNat t = (x t).toNat := by
  have hb : ∀ t, 0 ≤ x t ∧ x t ≤ 1 := fun t => by rcases hx t with h | h <;> omega
  have h0 := hb 0
  have h1 := hb 1
  have h2 := hb 2
  have h3 := hb 3
  have h4 := hb 4
  have h5 := hb 5
  have h6 := hb 6
  have h7 := hb 7
  clear hx hb
  simp only [accB]
  unfold bit8
  have hr : t = 0 ∨ t = 1 ∨ t = 2 ∨ t = 3 ∨ t = 4 ∨ t = 5 ∨ t = 6 ∨ t = 7 := by omega
  rcases hr with rfl | rfl | rfl | rfl | rfl | rfl | rfl | rfl <;> simp only [Nat.reduceSub, Nat.reducePow] <;> omega
def xB (a : Ad) (n bit : Int) (i : Nat) : Int := if n ≤ (i : Int) then bit else bitA a i
theorem bitA_two (a : Ad) (i : Int) : bitA a i = 0 ∨ bitA a i = 1 := by
  unfold bitA
  split
  · exact .inl rfl
  · split
    · exact .inl rfl
    · unfold bit8
      omega
theorem xB_two (a : Ad) (n : Int) {bit : Int} (hb : bit = 0 ∨ bit = 1) (i : Nat) : xB a n bit i = 0 ∨ xB a n bit i = 1 := by
  unfold xB
  split
  · exact hb
  · exact bitA_two a i
theorem withL_succ (a : Ad) (n bit : Int) (i : Nat) : withL a n bit (i + 1) = (withL a n bit i).set (i / 8) ((byt (withL a n bit i) (i / 8) * 2 + xB a n bit i) % 256) := rfl
theorem with_bytes (a : Ad) (n : Int) {bit : Int} (hb : bit = 0 ∨ bit = 1) : ∀ m, m ≤ 128 → ∀ j, j < 16 → byt (withL a n bit m) j = accB (fun t => xB a n bit (8 * j + t)) (min 8 (m - 8 * j))
  | 0, _, j, hj => by
    rw [show min 8 (0 - 8 * j) = 0 by omega]
    exact byt_zeros j
  | m + 1, hm, j, hj => by
    have ih := with_bytes a n hb m (by omega)
    rw [withL_succ, byt_set _ _ _ _ (by rw [(ok_withL a n bit m).1]; omega)]
    split
    · rename_i h
      subst h
      rw [ih (m / 8) hj, show min 8 (m - 8 * (m / 8)) = m % 8 by omega, show min 8 (m + 1 - 8 * (m / 8)) = m % 8 + 1 by omega]
      have hs := acc_small (x := fun t => xB a n bit (8 * (m / 8) + t)) (fun t => xB_two a n hb _) (r := m % 8) (by omega)
      have hx := xB_two a n hb m
      show (accB _ (m % 8) * 2 + xB a n bit m) % 256 = accB _ (m % 8) * 2 + xB a n bit (8 * (m / 8) + m % 8)
      rw [show 8 * (m / 8) + m % 8 = m by omega]
      omega
    · rename_i h
      rw [ih j hj, show min 8 (m - 8 * j) = min 8 (m + 1 - 8 * j) by omega]
theorem maskN_range (a : Ad) (n : Int) : 0 ≤ maskN a n ∧ maskN a n ≤ bitsOf a.fam := by
  have := bitsOf_le a.fam
  unfold maskN
  repeat' split
  all_goals omega
theorem fam_may {a : Ad} (h : mayA a = true) (h0 : a.fam ≠ 0) : a.fam = 4 ∨ a.fam = 6 := by
  unfold mayA at h
  rw [Bool.and_eq_true] at h
  have h2 := h.2
  unfold famB at h2
  rw [Bool.or_eq_true, Bool.or_eq_true, beq_iff_eq, beq_iff_eq, beq_iff_eq] at h2
  omega
theorem may_maskP {a : Ad} (hm : mayA a = true) (h0 : a.fam ≠ 0) (n : Int) : mayP (maskP a n) = true := by
  rw [mayP_iff]
  have hf := fam_may hm h0
  have hk := maskN_range a n
  refine ⟨?_, h0, hk.1, hk.2, ?_⟩
  · show mayA (withA a (maskN a n) 0) = true
    unfold mayA at hm ⊢
    rw [Bool.and_eq_true] at hm ⊢
    refine ⟨?_, hm.2⟩
    rw [zerB_iff]
    intro j h1 h2
    show byt (withL a (maskN a n) 0 (bitsOf a.fam).toNat) j = 0
    change fromA a.fam ≤ j at h1
    change j < fromA a.fam + (16 - fromA a.fam) at h2
    rcases hf with hf | hf
    · rw [hf] at h1 h2 ⊢
      have h3 : 4 ≤ j := h1
      have h4 : j < 16 := h2
      rw [show (bitsOf 4).toNat = 32 from rfl, with_bytes a _ (.inl rfl) 32 (by decide) j h4, show min 8 (32 - 8 * j) = 0 by omega]
      rfl
    · rw [hf] at h1 h2
      have h3 : 16 ≤ j := h1
      have h4 : j < 16 := h2
      omega
  · intro j h1 h2
    show bitA (withA a (maskN a n) 0) j = 0
    have h1' : maskN a n ≤ (j : Int) := h1
    have h2' : (j : Int) < bitsOf a.fam := h2
    rw [bitA_of (show (j : Int) < bitsOf (withA a (maskN a n) 0).fam from h2')]
    unfold bitB
    show ((bit8 (byt (withL a (maskN a n) 0 (bitsOf a.fam).toNat) (j / 8)).toNat (j % 8) : Nat) : Int) = 0
    have hle := bitsOf_le a.fam
    rw [with_bytes a _ (.inl rfl) _ (by omega) (j / 8) (by omega)]
    have h8 : min 8 ((bitsOf a.fam).toNat - 8 * (j / 8)) = 8 := by
      rcases hf with hf | hf
      · rw [hf] at h2' ⊢
        have h3 : (j : Int) < 32 := h2'
        rw [show (bitsOf 4).toNat = 32 from rfl]
        omega
      · rw [hf] at h2' ⊢
        have h3 : (j : Int) < 128 := h2'
        rw [show (bitsOf 6).toNat = 128 from rfl]
        omega
    rw [h8, acc_bit (fun t => xB_two a _ (.inl rfl) _) (Nat.mod_lt j (by decide)), show 8 * (j / 8) + j % 8 = j by omega]
    unfold xB
    rw [if_pos h1']
    rfl
/-! ### a prefix that is added -/
end Go.Proofs.YtjilnigmbnmlfaaGreatDoor.P
