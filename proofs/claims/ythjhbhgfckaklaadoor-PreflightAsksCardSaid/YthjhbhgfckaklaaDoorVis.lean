/-
  Plain lemmas: texts whose bytes are all visible.
-/
import Derived.Lib.ItoaNum
import Derived.Test.YthjhbhgfckaklaaDoorM4
namespace Go.Proofs.YthjhbhgfckaklaaDoor.P
open Go.RowKit Go.Proofs.YthjhbhgfckaklaaDoorW.PrintWords Go.Proofs.YthjhbhgfckaklaaDoorW.PrintLast Go.Proofs.YthjhbhgfckaklaaDoorW.PrintMore
set_option linter.unusedVariables false
set_option linter.unusedSimpArgs false
def Vis (s : ByteArray) : Prop := ∀ x ∈ bytesOf s, 33 ≤ x ∧ x ≤ 126
theorem Vis.append {a b : ByteArray} (ha : Vis a) (hb : Vis b) : Vis (a ++ b) := by
 intro x hx
 rw [bytesOf_append] at hx
 rcases List.mem_append.1 hx with h | h
 ·exact ha x h
 ·exact hb x h
theorem vis_lit (s : ByteArray) (h : (bytesOf s).all (fun x => decide (33 ≤ x) && decide (x ≤ 126)) = true) : Vis s := by
 intro x hx
 have := List.all_eq_true.1 h x hx
 simpa using this
theorem bytesOf_extract_mem {s : ByteArray} {a b : Nat} {x : Int} (h : x ∈ bytesOf (s.extract a b)) : x ∈ bytesOf s := by
 unfold bytesOf at *
 rw [List.mem_map] at *
 obtain ⟨c, hc, rfl⟩ := h
 refine ⟨c, ?_, rfl⟩
 rw [ByteArray.data_extract, Array.toList_extract] at hc
 exact List.mem_of_mem_drop (List.mem_of_mem_take hc)
theorem Vis.extract {s : ByteArray} (h : Vis s) (a b : Nat) : Vis (s.extract a b) := fun x hx => h x (bytesOf_extract_mem hx)
theorem vis_of_bt {s : ByteArray} (h : ∀ j : Nat, j < s.size → 33 ≤ bt s j ∧ bt s j ≤ 126) : Vis s := by
 intro x hx
 obtain ⟨j, hj, e⟩ := List.getElem_of_mem hx
 rw [bytesOf_length] at hj
 have := bytesOf_getElem s j hj
 rw [List.getElem?_eq_getElem (by rw [bytesOf_length]; exact hj), e] at this
 rw [Option.some.inj this]
 exact h j hj
theorem Vis.bt {s : ByteArray} (h : Vis s) (j : Nat) (hj : j < s.size) : 33 ≤ bt s j ∧ bt s j ≤ 126 := by
 have := bytesOf_getElem s j hj
 exact h _ (List.mem_of_getElem? this)
theorem vis_strOf (xs : List Int) (h : ∀ x ∈ xs, 33 ≤ x ∧ x ≤ 126) : Vis (strOfNums xs) := by
 unfold Vis
 rw [bytesOf_strOf xs (fun x hx => by have := h x hx; omega)]
 exact h
theorem digits_range (u : Nat) : ∀ b ∈ Lib.decDigits u, 48 ≤ (b.toNat : Int) ∧ (b.toNat : Int) ≤ 57 := by
 induction u using Nat.strongRecOn with
 | _ u ih =>
  intro b hb
  rw [Lib.decDigits] at hb
  have hd : ∀ d : Nat, d < 10 → (UInt8.ofNat (48 + d)).toNat = 48 + d := fun d hd => by simp; omega
  split at hb
  ·rename_i h
   rw [List.mem_singleton.1 hb, hd u h]
   omega
  ·rename_i h
   rcases List.mem_append.1 hb with h2 | h2
   ·exact ih (u / 10) (by omega) b h2
   ·rw [List.mem_singleton.1 h2, hd _ (Nat.mod_lt _ (by omega))]
    omega
theorem vis_dec (u : Nat) : Vis (⟨(Lib.decDigits u).toArray⟩ : ByteArray) := by
 intro x hx
 unfold bytesOf at hx
 rw [List.mem_map] at hx
 obtain ⟨b, hb, rfl⟩ := hx
 have := digits_range u b (by simpa using hb)
 omega
theorem vis_empty : Vis (⟨#[]⟩ : ByteArray) := fun x hx => by simp [bytesOf] at hx
end Go.Proofs.YthjhbhgfckaklaaDoor.P
