/-
  Plain laws for the first statements on texts: what the first bytes of a text are, how many signs it has, what its small letters are.
-/
import Derived.Test.YtcpeecacoblbhaaBase
import Derived.Test.YtcpeecacoblbhaaPL11
namespace Go.Proofs.Ytcpeecacoblbhaa.P
open Go.RowKit Go.Proofs.YtcpeecacoblbhaaW.PrintWords Go.Proofs.YtcpeecacoblbhaaW.PrintLast Go.Proofs.YtcpeecacoblbhaaW.PrintMore
set_option linter.unusedVariables false
set_option linter.unusedSimpArgs false

def few (s : ByteArray) (n : Nat) : ByteArray := if n < s.size then s.extract 0 n else s
theorem few_size (s : ByteArray) (n : Nat) : (few s n).size ≤ n := by
  unfold few
  split
  · rw [ByteArray.size_extract]; omega
  · omega
theorem Few_eq (s : ByteArray) (n : Nat) : abatisref01_Few.f s (n : Int) = some (few s n) := by
  unfold abatisref01_Few.f few
  by_cases h : n < s.size
  · rw [if_pos (by omega), if_pos (by omega), if_pos (by omega), if_pos h]; simp
  · rw [if_neg (by omega), if_neg h]

/-! ### rounds -/
theorem lives01_ev : Ev (fun k => abatislaw01_lives.f k) true := Ev.of (fun k => abatislaw01_lives.mono k) (k := 12) (by decide +kernel)

/-! ### how many signs a text has -/
theorem decode_append (a b : ByteArray) (q : Nat) : Utf8.decode (a ++ b) (a.size + q) = Utf8.decode b q := by
  have h : ∀ k, (a ++ b).get! (a.size + q + k) = b.get! (q + k) := fun k => by rw [Nat.add_assoc]; exact get_append a b (q + k)
  have h2 : ∀ k, (a.size + q + k < (a ++ b).size) = (q + k < b.size) := fun k => by rw [ByteArray.size_append]; apply propext; omega
  unfold Utf8.decode
  simp only [h, h2]
theorem count_behind (a b : ByteArray) : ∀ f q, Lib.runeCountFrom (a ++ b) f (a.size + q) = Lib.runeCountFrom b f q := by
  intro f
  induction f with
  | zero => intro q; rfl
  | succ f ih =>
    intro q
    unfold Lib.runeCountFrom
    rw [decode_append, ByteArray.size_append]
    by_cases h : q < b.size
    · rw [if_pos (by omega), if_pos h, Nat.add_assoc, ih]
    · rw [if_neg (by omega), if_neg h]
theorem count_more (s : ByteArray) : ∀ f pos, s.size ≤ pos + f → Lib.runeCountFrom s (f + 1) pos = Lib.runeCountFrom s f pos := by
  intro f
  induction f with
  | zero => intro pos h; rw [Lib.runeCountFrom_end s _ _ (by omega), Lib.runeCountFrom_end s _ _ (by omega)]
  | succ f ih =>
    intro pos h
    by_cases hp : pos < s.size
    · have := Lib.decode_width_pos s pos hp
      rw [Lib.runeCountFrom, if_pos hp, ih _ (by omega)]
      conv => rhs; rw [Lib.runeCountFrom, if_pos hp]
    · rw [Lib.runeCountFrom_end s _ _ hp, Lib.runeCountFrom_end s _ _ hp]
theorem count_enough (s : ByteArray) (f g pos : Nat) (hf : s.size ≤ pos + f) (hg : f ≤ g) : Lib.runeCountFrom s g pos = Lib.runeCountFrom s f pos := by
  obtain ⟨d, rfl⟩ := Nat.exists_eq_add_of_le hg
  induction d with
  | zero => rfl
  | succ d ih => rw [← Nat.add_assoc, count_more s (f + d) pos (by omega)]; exact ih (by omega)
/-- All bytes below i are below 128. -/
def Low (s : ByteArray) (i : Nat) : Prop := ∀ j : Nat, j < i → bt s j < 128
theorem count_low (a b : ByteArray) (h : Low a a.size) : ∀ d i, i + d = a.size → ∀ f, Lib.runeCountFrom (a ++ b) (d + f) i = d + Lib.runeCountFrom (a ++ b) f a.size := by
  intro d
  induction d with
  | zero => intro i hi f; rw [Nat.zero_add, Nat.zero_add, show i = a.size from by omega]
  | succ d ih =>
    intro i hi f
    have hlt : i < (a ++ b).size := by rw [ByteArray.size_append]; omega
    have h1 : ((a ++ b)[i]'hlt).toNat < 128 := by
      have := h i (by omega)
      rw [← bt_left a b i (by omega), bt_get _ _ hlt] at this
      omega
    rw [show d + 1 + f = (d + f) + 1 from by omega, Lib.runeCountFrom, if_pos hlt, decode_ascii _ _ hlt h1]
    simp only
    rw [ih (i + 1) (by omega) f]
    omega
theorem count_two (a b : ByteArray) (h : Low a a.size) : Lib.runeCount (a ++ b) = a.size + Lib.runeCount b := by
  unfold Lib.runeCount
  rw [ByteArray.size_append, count_low a b h a.size 0 (by omega) b.size]
  have := count_behind a b b.size 0
  rw [Nat.add_zero] at this
  rw [this]
theorem count_one (a : ByteArray) (h : Low a a.size) : Lib.runeCount a = a.size :=
  Lib.runeCount_ascii a (fun j hj => by have := h j hj; rw [bt_get a j hj] at this; omega)
theorem count_zero (a : ByteArray) : Lib.runeCount a = 0 ↔ a.size = 0 := by
  constructor
  · intro h
    rcases Nat.eq_zero_or_pos a.size with h0 | h0
    · exact h0
    · obtain ⟨n, hn⟩ : ∃ n, a.size = n + 1 := ⟨a.size - 1, by omega⟩
      unfold Lib.runeCount at h
      rw [hn, Lib.runeCountFrom, if_pos (by omega)] at h
      omega
  · intro h
    have := Lib.runeCount_le a
    omega
theorem Signs_eq (s : ByteArray) (h : s.size ≤ 200) : text_Signs.f s = some (Lib.runeCount s : Int) := by
  unfold text_Signs.f; rw [if_pos (by omega)]

theorem signs_end (a b : ByteArray) (ha : a.size ≤ 60) (hb : b.size ≤ 60) (low : Bool) (hl : low = true → Low a a.size) :
    Ev (fun k => abatislaw01_TextSigns.j1 k a b (Lib.runeCount a : Int) low false) true := by
  refine Ev.step (fun k => abatislaw01_TextSigns.j1.eq_2 ..) ?_
  refine ev_false ?_
  have hs : a.size + b.size ≤ 9223372036854775807 := by omega
  have hlv : Ev (fun k => (abatislaw01_lives.f k).bind fun t113 => some t113) true := Ev.bind lives01_ev (Ev.now _)
  cases low with
  | true =>
    refine ev_true (ev_pos hs ?_)
    refine ev_get (Signs_eq (a ++ b) (by rw [ByteArray.size_append]; omega)) ?_
    refine ev_get (Signs_eq b (by omega)) ?_
    have h1 := count_two a b (hl rfl)
    have h2 := count_one a (hl rfl)
    have h3 := Lib.runeCount_le b
    refine ev_pos ?_ hlv
    rw [h1, h2]; unfold wrap64; omega
  | false => exact ev_false hlv
theorem signs_loop (a b : ByteArray) (ha : a.size ≤ 60) (hb : b.size ≤ 60) (d : Nat) : ∀ (i : Nat) (low : Bool), i + d = a.size → (low = true ↔ Low a i) →
    Ev (fun k => abatislaw01_TextSigns.l0 k a b (Lib.runeCount a : Int) low (i : Int)) true := by
  induction d with
  | zero =>
    intro i low hi hl
    obtain rfl : i = a.size := by omega
    refine Ev.step (fun k => abatislaw01_TextSigns.l0.eq_2 ..) ?_
    have h1 := Lib.runeCount_le a
    have hz : (((Lib.runeCount a : Int) == 0) != (a.toList == ([] : List UInt8))) = false := by
      rw [toList_nil]
      have := count_zero a
      by_cases h0 : a.size = 0
      · rw [this.2 h0, h0]; rfl
      · have h2 : ¬ Lib.runeCount a = 0 := fun h => h0 (this.1 h)
        simp [h0]; omega
    refine ev_neg (by omega) (ev_neg (by omega) ?_)
    cases low with
    | true =>
      refine ev_true (ev_pos (by rw [count_one a (hl.1 rfl)]) ?_)
      rw [hz]
      exact signs_end a b ha hb true (fun _ => hl.1 rfl)
    | false =>
      refine ev_false ?_
      rw [hz]
      exact signs_end a b ha hb false (fun h => by cases h)
  | succ d ih =>
    intro i low hi hl
    refine Ev.step (fun k => abatislaw01_TextSigns.l0.eq_2 ..) ?_
    refine ev_pos (by omega) ?_
    have e : wrap64 ((i : Int) + 1) = ((i + 1 : Nat) : Int) := by unfold wrap64; omega
    rw [e]
    cases low with
    | true =>
      refine ev_true (ev_pos (by omega) ?_)
      refine ih (i + 1) _ (by omega) ?_
      rw [decide_eq_true_iff]
      constructor
      · intro h j hj
        by_cases hji : j = i
        · rw [hji]; exact h
        · exact hl.1 rfl j (by omega)
      · intro h; exact h i (by omega)
    | false =>
      refine ev_false ?_
      refine ih (i + 1) false (by omega) ?_
      constructor
      · intro h; cases h
      · intro h; exact absurd (hl.2 (fun j hj => h j (by omega))) (by simp)
theorem TextSigns_ev (a b : ByteArray) : Ev (fun k => abatislaw01_TextSigns.f k a b) true := by
  have h1 : abatisref01_Few.f a 60 = some (few a 60) := Few_eq a 60
  have h2 : abatisref01_Few.f b 60 = some (few b 60) := Few_eq b 60
  have s1 := few_size a 60
  have s2 := few_size b 60
  unfold abatislaw01_TextSigns.f
  refine ev_get h1 (ev_get h2 (ev_get (Signs_eq (few a 60) (by omega)) ?_))
  exact signs_loop _ _ s1 s2 (few a 60).size 0 true (by omega) ⟨fun _ j hj => by omega, fun _ => rfl⟩

/-! ### small letters -/
def lowS (s : ByteArray) : ByteArray := strOfNums ((bytesOf s).map lowB)
theorem Lower_eq (s : ByteArray) (h : s.size ≤ 1000) : text_Lower.f s = some (lowS s) := by
  unfold text_Lower.f; rw [if_pos (by omega)]; rfl
end Go.Proofs.Ytcpeecacoblbhaa.P
