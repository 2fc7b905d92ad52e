/-
  Plain laws for TextRows: a text some of whose letters are made great is alike.
-/
import Derived.Test.YtcpeecacoblbhaaPlB
import Derived.Test.YtcpeecacoblbhaaPL12
namespace Go.Proofs.Ytcpeecacoblbhaa.P
open Go.RowKit Go.Proofs.YtcpeecacoblbhaaW.PrintWords Go.Proofs.YtcpeecacoblbhaaW.PrintLast Go.Proofs.YtcpeecacoblbhaaW.PrintMore
set_option linter.unusedVariables false
set_option linter.unusedSimpArgs false

/-- A list of bytes that is a text's first i, whatever the letters. -/
def Alike (s : ByteArray) (i : Nat) (x : List Int) : Prop := x.length = i ∧ (∀ c ∈ x, 0 ≤ c ∧ c ≤ 255) ∧ x.map lowB = ((bytesOf s).take i).map lowB
theorem alike_step {s : ByteArray} {i : Nat} {x : List Int} (h : Alike s i x) (hi : i < s.size) (c : Int) (h0 : 0 ≤ c ∧ c ≤ 255) (hc : lowB c = lowB (bt s i)) : Alike s (i + 1) (x ++ [c]) := by
  refine ⟨by simp [h.1], fun y hy => ?_, ?_⟩
  · rcases List.mem_append.1 hy with hy | hy
    · exact h.2.1 y hy
    · rw [List.mem_singleton.1 hy]; exact h0
  · rw [List.map_append, h.2.2, bytesOf_take s i hi, List.map_append, List.map_cons, List.map_nil, hc]; rfl
theorem alike_end {s : ByteArray} {x : List Int} (h : Alike s s.size x) : lowS (strOfNums x) = lowS s ∧ (strOfNums x).size = s.size := by
  refine ⟨?_, by rw [size_strOf, h.1]⟩
  unfold lowS
  rw [bytesOf_strOf x h.2.1, h.2.2, List.take_of_length_le (by rw [bytesOf_length]; omega)]
theorem low_great (c : Int) (h0 : 97 ≤ c) (h1 : c ≤ 122) : lowB ((c - 32) % 256) = lowB c ∧ 0 ≤ (c - 32) % 256 ∧ (c - 32) % 256 ≤ 255 := by
  have e : (c - 32) % 256 = c - 32 := by omega
  rw [e]
  unfold lowB
  rw [if_pos (show 65 ≤ c - 32 ∧ c - 32 ≤ 90 by omega), if_neg (show ¬ (65 ≤ c ∧ c ≤ 90) by omega)]
  omega
theorem TextRows_loop (s : ByteArray) (g : List Bool) (hs : s.size ≤ 60) (d : Nat) : ∀ (i : Nat) (x : List Int), i + d = s.size → Alike s i x →
    Ev (fun k => abatislaw01_TextRows.l0 k s g x (i : Int)) true := by
  induction d with
  | zero =>
    intro i x hi hx
    obtain rfl : i = s.size := by omega
    have ⟨e1, e2⟩ := alike_end hx
    have L1 := Like_eq s (strOfNums x) (by omega) (by omega)
    have L2 := Like_eq (strOfNums x) s (by omega) (by omega)
    have L3 := Like_eq s (s ++ (⟨#[97]⟩ : ByteArray)) (by omega) (by rw [ByteArray.size_append]; show s.size + 1 ≤ 1000; omega)
    have b1 : ((lowS s).toList == (lowS s).toList) = true := by simp
    have b3 : ((lowS s).toList == (lowS (s ++ (⟨#[97]⟩ : ByteArray))).toList) = false := by
      rw [Bool.eq_false_iff]
      intro h
      have h2 := toList_inj.1 (eq_of_beq h)
      have h3 := congrArg ByteArray.size h2
      rw [size_lowS, size_lowS, ByteArray.size_append] at h3
      have h4 : s.size = s.size + 1 := h3
      omega
    rw [e1, b1] at L1 L2
    rw [b3] at L3
    have M1 := Lower_eq (strOfNums x) (by omega)
    have M2 := Lower_eq s (by omega)
    rw [e1] at M1
    refine Ev.step (fun k => abatislaw01_TextRows.l0.eq_2 ..) (ev_neg (by omega) (ev_get L1 (ev_true (ev_get L2 (ev_true (ev_get M1 (ev_get M2 (ev_pos rfl ?_))))))))
    exact ev_pos (by omega) (ev_get L3 (ev_false (Ev.bind lives01_ev (Ev.now _))))
  | succ d ih =>
    intro i x hi hx
    have hr := bt_range s i
    have e : wrap64 ((i : Int) + 1) = ((i + 1 : Nat) : Int) := by unfold wrap64; omega
    have hl : x.length < 140737488355328 := by rw [hx.1]; omega
    have same := ih (i + 1) _ (by omega) (alike_step hx (by omega) _ hr rfl)
    refine Ev.step (fun k => abatislaw01_TextRows.l0.eq_2 ..) (ev_pos (by omega) (ev_pos (by omega) ?_))
    rw [e]
    by_cases a : (i : Int) < (g.length : Int)
    · refine ev_pos a ?_
      by_cases b : rdOf false g (i : Int) = true
      · refine ev_pos b ?_
        by_cases c : bt s i ≥ 97
        · refine ev_pos c ?_
          by_cases c2 : bt s i ≤ 122
          · have hg := low_great (bt s i) c c2
            exact ev_pos c2 (ev_pos hl (ih (i + 1) _ (by omega) (alike_step hx (by omega) _ hg.2 hg.1)))
          · exact ev_neg c2 (ev_pos hl same)
        · exact ev_neg c (ev_pos hl same)
      · exact ev_neg b (ev_pos hl same)
    · exact ev_neg a (ev_pos hl same)
theorem TextRows_ev (a : ByteArray) (g : List Bool) : Ev (fun k => abatislaw01_TextRows.f k a g) true := by
  have h1 : abatisref01_Few.f a 60 = some (few a 60) := Few_eq a 60
  unfold abatislaw01_TextRows.f
  exact ev_get h1 (TextRows_loop _ g (few_size a 60) (few a 60).size 0 [] (by omega) ⟨rfl, by simp, by simp⟩)
end Go.Proofs.Ytcpeecacoblbhaa.P
