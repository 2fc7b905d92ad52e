/-
  Plain lemmas on a text's bytes, for all texts of this seat.
-/
import Derived.Test.YthdognlkacjkhaaGreatDoorPb
import Derived.Lib.RuneCount
import Derived.Laws.RangeAny
import Derived.Lib.OthersKept
namespace Go.Proofs.YthdognlkacjkhaaGreatDoor.P
open Go.RowKit Go.Proofs.YthdognlkacjkhaaGreatDoorW.PrintWords Go.Proofs.YthdognlkacjkhaaGreatDoorW.PrintLast Go.Proofs.YthdognlkacjkhaaGreatDoorW.PrintMore
set_option linter.unusedVariables false
set_option linter.unusedSimpArgs false

/-! ### bytes -/
theorem toList_loop (bs : ByteArray) : ∀ (n i : Nat) (r : List UInt8), bs.size - i = n → ByteArray.toList.loop bs i r = r.reverse ++ bs.data.toList.drop i := by
  intro n
  induction n with
  | zero =>
    intro i r h
    unfold ByteArray.toList.loop
    rw [if_neg (by omega), List.drop_of_length_le (by rw [data_length]; omega)]
    simp
  | succ n ih =>
    intro i r h
    have hlt : i < bs.size := by omega
    unfold ByteArray.toList.loop
    rw [if_pos hlt, ih (i + 1) _ (by omega)]
    have hl : i < bs.data.toList.length := by rw [data_length]; exact hlt
    rw [List.drop_eq_getElem_cons hl]
    have : bs.get! i = bs.data.toList[i] := by
      have hs : i < bs.data.size := hlt
      show bs.data[i]! = _
      rw [getElem!_pos bs.data i hs, Array.getElem_toList]
    simp [this]
theorem toList_eq (bs : ByteArray) : bs.toList = bs.data.toList := by
  unfold ByteArray.toList
  rw [toList_loop bs _ 0 [] rfl]
  simp
theorem toList_nil (a : ByteArray) : (a.toList == ([] : List UInt8)) = decide (a.size = 0) := by
  rw [toList_eq, Bool.eq_iff_iff, decide_eq_true_iff]
  have hl := data_length a
  cases hd : a.data.toList with
  | nil => rw [hd, List.length_nil] at hl; simp [← hl]
  | cons c l =>
    rw [hd, List.length_cons] at hl
    constructor
    · intro h; simp at h
    · intro h; omega
theorem isEmpty_eq (s : ByteArray) : (!s.toList.isEmpty) = decide (0 < s.size) := by
  have h := toList_nil s
  rw [toList_eq] at h ⊢
  rw [Bool.eq_iff_iff]
  have hl := data_length s
  cases hd : s.data.toList with
  | nil => rw [hd, List.length_nil] at hl; simp [← hl]
  | cons c l =>
    rw [hd, List.length_cons] at hl
    constructor
    · intro h; rw [decide_eq_true_iff]; omega
    · intro h; rfl
/-! ### one step of what is printed, from some number of rounds on -/
end Go.Proofs.YthdognlkacjkhaaGreatDoor.P
