/-
  Plain lemmas on a text's bytes, for all texts of this seat.
-/
import Derived.Test.YthjhbhgfckaklaaDoorPb
import Derived.Lib.RuneCount
import Derived.Laws.RangeAny
import Derived.Lib.OthersKept
namespace Go.Proofs.YthjhbhgfckaklaaDoor.P
open Go.RowKit Go.Proofs.YthjhbhgfckaklaaDoorW.PrintWords Go.Proofs.YthjhbhgfckaklaaDoorW.PrintLast Go.Proofs.YthjhbhgfckaklaaDoorW.PrintMore
set_option linter.unusedVariables false
set_option linter.unusedSimpArgs false

/-! ### bytes -/
theorem toList_loop (bs : ByteArray) : ∀ (n i : Nat) (r : List UInt8), bs.size - i = n → ByteArray.toList.loop bs i r = r.reverse ++ bs.data.toList.drop i := by
  intro n
  induction n with
  | zero =>
    intro i r h
    unfold ByteArray.toList.loop
    rw [if_neg (by omega), List.drop_of_length_le (by rw [data_length]; omega)]
    simp
  | succ n ih =>
    intro i r h
    have hlt : i < bs.size := by omega
    unfold ByteArray.toList.loop
    rw [if_pos hlt, ih (i + 1) _ (by omega)]
    have hl : i < bs.data.toList.length := by rw [data_length]; exact hlt
    rw [List.drop_eq_getElem_cons hl]
    have : bs.get! i = bs.data.toList[i] := by
      have hs : i < bs.data.size := hlt
      show bs.data[i]! = _
      rw [getElem!_pos bs.data i hs, Array.getElem_toList]
    simp [this]
theorem toList_eq (bs : ByteArray) : bs.toList = bs.data.toList := by
  unfold ByteArray.toList
  rw [toList_loop bs _ 0 [] rfl]
  simp
theorem toList_inj {a b : ByteArray} : a.toList = b.toList ↔ a = b := by
  rw [toList_eq, toList_eq]
  constructor
  · intro h
    cases a; cases b
    simp at h
    simp [h]
  · rintro rfl; rfl
theorem toList_nil (a : ByteArray) : (a.toList == ([] : List UInt8)) = decide (a.size = 0) := by
  rw [toList_eq, Bool.eq_iff_iff, decide_eq_true_iff]
  have hl := data_length a
  cases hd : a.data.toList with
  | nil => rw [hd, List.length_nil] at hl; simp [← hl]
  | cons c l =>
    rw [hd, List.length_cons] at hl
    constructor
    · intro h; simp at h
    · intro h; omega
theorem isEmpty_eq (s : ByteArray) : (!s.toList.isEmpty) = decide (0 < s.size) := by
  have h := toList_nil s
  rw [toList_eq] at h ⊢
  rw [Bool.eq_iff_iff]
  have hl := data_length s
  cases hd : s.data.toList with
  | nil => rw [hd, List.length_nil] at hl; simp [← hl]
  | cons c l =>
    rw [hd, List.length_cons] at hl
    constructor
    · intro h; rw [decide_eq_true_iff]; omega
    · intro h; rfl
theorem get_append (a b : ByteArray) (q : Nat) : (a ++ b).get! (a.size + q) = b.get! q := by
  have e : (a ++ b).data = a.data ++ b.data := by simp
  show (a ++ b).data[a.size + q]! = b.data[q]!
  rw [e]
  by_cases h : q < b.data.size
  · have h2 : a.size + q < (a.data ++ b.data).size := by rw [Array.size_append]; show a.data.size + q < _; omega
    rw [getElem!_pos (a.data ++ b.data) (a.size + q) h2, getElem!_pos b.data q h, Array.getElem_append_right (by show a.data.size ≤ a.data.size + q; omega)]
    congr 1
    show a.data.size + q - a.data.size = q
    omega
  · have h2 : ¬ a.size + q < (a.data ++ b.data).size := by rw [Array.size_append]; show ¬ a.data.size + q < _; omega
    rw [getElem!_neg (a.data ++ b.data) (a.size + q) h2, getElem!_neg b.data q h]
theorem bt_get (s : ByteArray) (j : Nat) (h : j < s.size) : bt s j = ((s[j]'h).toNat : Int) := by
  unfold bt
  rw [dif_pos (by simpa using h)]
  simp
theorem get_left (a b : ByteArray) (j : Nat) (h : j < a.size) : (a ++ b).get! j = a.get! j := by
  have e : (a ++ b).data = a.data ++ b.data := by simp
  show (a ++ b).data[j]! = a.data[j]!
  have h1 : j < a.data.size := h
  have h2 : j < (a.data ++ b.data).size := by rw [Array.size_append]; omega
  rw [e, getElem!_pos (a.data ++ b.data) j h2, getElem!_pos a.data j h1, Array.getElem_append_left]
theorem bt_bang (s : ByteArray) (j : Nat) (h : j < s.size) : bt s j = ((s.get! j).toNat : Int) := by
  rw [bt_get s j h]
  congr 2
  have hs : j < s.data.size := h
  show s.data[j] = s.data[j]!
  rw [getElem!_pos s.data j hs]
theorem bt_left (a b : ByteArray) (j : Nat) (h : j < a.size) : bt (a ++ b) j = bt a j := by
  rw [bt_bang _ _ (by rw [ByteArray.size_append]; omega), bt_bang _ _ h, get_left a b j h]
theorem bytesOf_getElem (s : ByteArray) (i : Nat) (h : i < s.size) : (bytesOf s)[i]? = some (bt s i) := by
  have hl : i < (bytesOf s).length := by rw [bytesOf_length]; exact h
  have := rd_bytesOf s i
  simp only [rd, Int.toNat_natCast, List.getD_eq_getElem?_getD, List.getElem?_eq_getElem hl, Option.getD_some] at this
  rw [List.getElem?_eq_getElem hl, this]
theorem bytesOf_take (s : ByteArray) (i : Nat) (h : i < s.size) : (bytesOf s).take (i + 1) = (bytesOf s).take i ++ [bt s i] := by
  rw [List.take_add_one, bytesOf_getElem s i h]; rfl
theorem bytesOf_range (s : ByteArray) : ∀ x ∈ bytesOf s, 0 ≤ x ∧ x ≤ 255 := by
  intro x hx
  simp only [bytesOf, List.mem_map] at hx
  obtain ⟨b, _, rfl⟩ := hx
  have := b.toNat_lt
  omega
theorem bytesOf_strOf (xs : List Int) (h : ∀ x ∈ xs, 0 ≤ x ∧ x ≤ 255) : bytesOf (strOfNums xs) = xs := by
  unfold bytesOf strOfNums
  simp only [List.map_map]
  conv => rhs; rw [← List.map_id xs]
  apply List.map_congr_left
  intro x hx
  have := h x hx
  simp
  omega
theorem strOf_bytesOf (s : ByteArray) : strOfNums (bytesOf s) = s := by
  unfold bytesOf strOfNums
  cases s with | mk d =>
  simp [List.map_map, Function.comp_def]
theorem size_strOf (xs : List Int) : (strOfNums xs).size = xs.length := by
  rw [← data_length]; simp [strOfNums]
theorem bytesOf_drop (s : ByteArray) (i : Nat) (h : i < s.size) : (bytesOf s).drop i = bt s i :: (bytesOf s).drop (i + 1) := by
  have hl : i < (bytesOf s).length := by rw [bytesOf_length]; exact h
  have := bytesOf_getElem s i h
  rw [List.getElem?_eq_getElem hl] at this
  rw [List.drop_eq_getElem_cons hl, Option.some.inj this]
theorem bytesOf_append (a b : ByteArray) : bytesOf (a ++ b) = bytesOf a ++ bytesOf b := by
  unfold bytesOf
  have e : (a ++ b).data = a.data ++ b.data := by simp
  rw [e, Array.toList_append, List.map_append]

/-! ### one step of what is printed, from some number of rounds on -/
theorem ev_pos {α : Type} {c : Prop} {inst : Decidable c} {f g : Nat → Option α} {r : α} (h : c) (k : Ev f r) : Ev (fun n => @ite _ c inst (f n) (g n)) r :=
  Ev.congr (fun n => if_pos h) k
theorem ev_neg {α : Type} {c : Prop} {inst : Decidable c} {f g : Nat → Option α} {r : α} (h : ¬ c) (k : Ev g r) : Ev (fun n => @ite _ c inst (f n) (g n)) r :=
  Ev.congr (fun n => if_neg h) k
theorem ev_get {α β : Type} {g : Option α} {f : Nat → α → Option β} {a : α} {r : β} (h : g = some a) (k : Ev (fun n => f n a) r) : Ev (fun n => g.bind (f n)) r :=
  Ev.congr (fun n => by rw [h]; rfl) k
theorem ev_now {α : Type} {r s : α} (h : r = s) : Ev (fun _ => some r) s := h ▸ Ev.now r
theorem ev_true {α : Type} {f g : Nat → Option α} {r : α} (k : Ev f r) : Ev (fun n => if true = true then f n else g n) r := Ev.congr (fun n => if_pos rfl) k
theorem ev_false {α : Type} {f g : Nat → Option α} {r : α} (k : Ev g r) : Ev (fun n => if false = true then f n else g n) r := Ev.congr (fun n => if_neg (by decide)) k
end Go.Proofs.YthjhbhgfckaklaaDoor.P
