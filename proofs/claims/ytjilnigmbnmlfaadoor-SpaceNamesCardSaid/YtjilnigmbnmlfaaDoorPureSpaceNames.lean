/-
  Spaces' names: plain.
-/
import Derived.Test.YtjilnigmbnmlfaaDoorPN1
import Derived.Test.YtjilnigmbnmlfaaDoorBase
namespace Go.Proofs.YtjilnigmbnmlfaaDoor.P
open Go.RowKit Go.Proofs.YtjilnigmbnmlfaaDoorW.PrintWords Go.Proofs.YtjilnigmbnmlfaaDoorW.PrintLast Go.Proofs.YtjilnigmbnmlfaaDoorW.PrintMore
set_option linter.unusedVariables false
set_option linter.unusedSimpArgs false
/-! ### small letters -/
def lowS (s : ByteArray) : ByteArray := strOfNums ((bytesOf s).map lowB)
theorem Lower_eq (s : ByteArray) (h : s.size ≤ 1000) : text_Lower.f s = some (lowS s) := by
  unfold text_Lower.f; rw [if_pos (by omega)]; rfl
theorem lowB_cases (c : Int) (h0 : 0 ≤ c) (h1 : c ≤ 255) : lowB c = if c ≥ 65 then (if c ≤ 90 then (c + 32) % 256 else c) else c := by
  unfold lowB
  by_cases a : 65 ≤ c
  · by_cases b : c ≤ 90
    · rw [if_pos ⟨a, b⟩, if_pos a, if_pos b]; omega
    · rw [if_neg (fun h => b h.2), if_pos a, if_neg b]
  · rw [if_neg (fun h => a h.1), if_neg a]
theorem refLower_loop (s : ByteArray) (hs : s.size ≤ 1000) (d : Nat) : ∀ i : Nat, i + d = s.size →
    Ev (fun k => r01_Lower.l0 k s (((bytesOf s).take i).map lowB) (i : Int)) (lowS s) := by
  induction d with
  | zero =>
    intro i hi
    refine Ev.step (fun k => r01_Lower.l0.eq_2 ..) (ev_neg (by omega) (ev_now ?_))
    rw [List.take_of_length_le (by rw [bytesOf_length]; omega)]
    rfl
  | succ d ih =>
    intro i hi
    have hr := bt_range s i
    have e : wrap64 ((i : Int) + 1) = ((i + 1 : Nat) : Int) := by unfold wrap64; omega
    have hl : (((bytesOf s).take i).map lowB).length < 140737488355328 := by
      rw [List.length_map, List.length_take, bytesOf_length]; omega
    have hn := ih (i + 1) (by omega)
    rw [bytesOf_take s i (by omega), List.map_append, List.map_cons, List.map_nil, lowB_cases _ hr.1 hr.2] at hn
    refine Ev.step (fun k => r01_Lower.l0.eq_2 ..) (ev_pos (by omega) (ev_pos (by omega) ?_))
    rw [e]
    by_cases a : bt s i ≥ 65
    · by_cases b : bt s i ≤ 90
      · rw [if_pos a, if_pos b] at hn
        exact ev_pos a (ev_pos b (ev_pos hl hn))
      · rw [if_pos a, if_neg b] at hn
        exact ev_pos a (ev_neg b (ev_pos hl hn))
    · rw [if_neg a] at hn
      exact ev_neg a (ev_pos hl hn)
theorem refLower_ev (s : ByteArray) (hs : s.size ≤ 1000) : Ev (fun k => r01_Lower.f k s) (lowS s) := refLower_loop s hs s.size 0 (by omega)
end Go.Proofs.YtjilnigmbnmlfaaDoor.P
namespace Go.Proofs.YtjilnigmbnmlfaaDoor.Pure
open Go.RowKit Go.Proofs.YtjilnigmbnmlfaaDoor.P Go.Proofs.YtjilnigmbnmlfaaDoorW.PrintWords Go.Proofs.YtjilnigmbnmlfaaDoorW.PrintLast Go.Proofs.YtjilnigmbnmlfaaDoorW.PrintMore
set_option linter.unusedVariables false
def few (s : ByteArray) (n : Nat) : ByteArray := if n < s.size then s.extract 0 n else s
theorem few_size (s : ByteArray) (n : Nat) : (few s n).size ≤ n := by
  unfold few
  split
  · rw [ByteArray.size_extract]; omega
  · omega
theorem Few_eq (s : ByteArray) (n : Nat) : r01_Few.f s (n : Int) = some (few s n) := by
  unfold r01_Few.f few
  by_cases h : n < s.size
  · rw [if_pos (by omega), if_pos (by omega), if_pos (by omega), if_pos h]; simp
  · rw [if_neg (by omega), if_neg h]
theorem low0 : lowS nm0 = nm0 := by decide +kernel
theorem low1 : lowS nm1 = nm1 := by decide +kernel
theorem low2 : lowS nm2 = nm2 := by decide +kernel
/-- The space of a text with small letters. -/
def spR (t : ByteArray) : Int × Bool := if t.toList = nm0.toList then (0, true) else if t.toList = nm1.toList then (1, true) else if t.toList = nm2.toList then (2, true) else (0, false)
theorem like_eq (a s : ByteArray) (ha : lowS a = a) (h1 : a.size ≤ 1000) (h2 : s.size ≤ 1000) : text_Like.f a s = some (decide ((lowS s).toList = a.toList)) := by
  unfold text_Like.f
  rw [Lower_eq a h1, Lower_eq s h2, ha]
  show some (a.toList == (lowS s).toList) = _
  congr 1
  rw [Bool.eq_iff_iff, beq_iff_eq, decide_eq_true_eq]
  exact eq_comm
theorem parse_eq (s : ByteArray) (h : s.size ≤ 1000) : space_Parse.f s = some (spR (lowS s)) := by
  unfold space_Parse.f spR
  rw [like_eq nm0 s low0 (by decide) h, like_eq nm1 s low1 (by decide) h, like_eq nm2 s low2 (by decide) h]
  by_cases h0 : (lowS s).toList = nm0.toList
  · rw [decide_eq_true h0, if_pos h0]; rfl
  · rw [decide_eq_false h0, if_neg h0]
    by_cases h1 : (lowS s).toList = nm1.toList
    · rw [decide_eq_true h1, if_pos h1]; rfl
    · rw [decide_eq_false h1, if_neg h1]
      by_cases h2 : (lowS s).toList = nm2.toList
      · rw [decide_eq_true h2, if_pos h2]; rfl
      · rw [decide_eq_false h2, if_neg h2]; rfl
theorem rname_eq (a : Int) : r07_Name.f a = some (nmS a) := by
  unfold r07_Name.f nmS
  by_cases h0 : a < 0
  · rw [if_pos h0, if_neg (by omega), if_neg (by omega), if_neg (by omega)]
  · rw [if_neg h0]
    by_cases h2 : a > 2
    · rw [if_pos h2, if_neg (by omega), if_neg (by omega), if_neg (by omega)]
    · rw [if_neg h2]
      have h3 : a = 0 ∨ a = 1 ∨ a = 2 := by omega
      rcases h3 with rfl | rfl | rfl <;> decide +kernel
theorem rparse_ev (s : ByteArray) (h : s.size ≤ 1000) : Ev (fun k => r07_Parse.f k s) (spR (lowS s)) := by
  have e0 : wrap64 ((0 : Int) + 1) = 1 := by decide +kernel
  have e1 : wrap64 ((1 : Int) + 1) = 2 := by decide +kernel
  have e2 : wrap64 ((2 : Int) + 1) = 3 := by decide +kernel
  have h3 : Ev (fun k => r07_Parse.l0 k s 3) (0, false) := Ev.step (fun k => r07_Parse.l0.eq_2 ..) (ev_neg (by decide) (ev_now rfl))
  have st : ∀ (i : Int) (n : ByteArray) (R : Int × Bool), i < 3 → nmS i = n → (¬ (lowS s).toList = n.toList → Ev (fun k => r07_Parse.l0 k s (wrap64 (i + 1))) R) → Ev (fun k => r07_Parse.l0 k s i) (if (lowS s).toList = n.toList then (i, true) else R) := fun i n R hi hn hR => by
    refine Ev.step (fun k => r07_Parse.l0.eq_2 ..) (ev_pos hi (Ev.bind (refLower_ev s h) (ev_get ((rname_eq i).trans (congrArg some hn)) ?_)))
    by_cases hc : (lowS s).toList = n.toList
    · rw [if_pos hc]
      exact ev_pos hc (ev_now rfl)
    · rw [if_neg hc]
      exact ev_neg hc (hR hc)
  exact st 0 nm0 _ (by decide) rfl (fun _ => by rw [e0]; exact st 1 nm1 _ (by decide) rfl (fun _ => by rw [e1]; exact st 2 nm2 _ (by decide) rfl (fun _ => by rw [e2]; exact h3)))
theorem lives_get : w07_lives.f = some true := rfl
theorem SpaceNames : w07_SpaceNames.Pure := fun a0 a1 _ _ => by
  have hs := few_size a1 20
  have key : Ev (fun k => w07_SpaceNames.f k a0 a1) true := by
    have hp : ∃ r : Int × Bool, space_Parse.f (nmS a0) = some r ∧ ((r = (a0, true) ∧ 0 ≤ a0 ∧ a0 ≤ 2) ∨ (r = (0, false) ∧ ¬ (0 ≤ a0 ∧ a0 ≤ 2))) := by
      by_cases h3 : a0 = 0 ∨ a0 = 1 ∨ a0 = 2
      · rcases h3 with rfl | rfl | rfl
        · exact ⟨(0, true), by decide +kernel, .inl ⟨rfl, by decide, by decide⟩⟩
        · exact ⟨(1, true), by decide +kernel, .inl ⟨rfl, by decide, by decide⟩⟩
        · exact ⟨(2, true), by decide +kernel, .inl ⟨rfl, by decide, by decide⟩⟩
      · refine ⟨(0, false), ?_, .inr ⟨rfl, by omega⟩⟩
        have hn : nmS a0 = ⟨#[]⟩ := by unfold nmS; rw [if_neg (by omega), if_neg (by omega), if_neg (by omega)]
        rw [hn]
        decide +kernel
    obtain ⟨r, hr, hc⟩ := hp
    refine ev_get (Few_eq a1 20) (ev_get (parse_eq _ (by omega)) (Ev.bind (rparse_ev _ (by omega)) (ev_get (a := nmS a0) rfl (ev_get hr (ev_get (rname_eq a0) (ev_pos rfl (ev_pos rfl (ev_neg (by simp) ?_))))))))
    rcases hc with ⟨rfl, h0, h2⟩ | ⟨rfl, hn⟩
    · refine ev_pos h0 (ev_pos ?_ (ev_pos rfl (ev_pos rfl (ev_get lives_get (ev_now rfl)))))
      show (true == decide (a0 ≤ 2)) = true
      rw [decide_eq_true h2]
      rfl
    · by_cases h0 : a0 ≥ 0
      · refine ev_pos h0 (ev_pos ?_ (ev_neg (by decide) (ev_get lives_get (ev_now rfl))))
        show (false == decide (a0 ≤ 2)) = true
        rw [decide_eq_false (by omega)]
        rfl
      · exact ev_neg h0 (ev_pos rfl (ev_neg (by decide) (ev_get lives_get (ev_now rfl))))
  exact key.rounds
end Go.Proofs.YtjilnigmbnmlfaaDoor.Pure
