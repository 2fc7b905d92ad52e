/-
  Plain laws for TextCases, and for a text's small letters.
-/
import Derived.Test.YtcpeecacoblbhaaBase
import Derived.Test.YtcpeecacoblbhaaPlA
namespace Go.Proofs.Ytcpeecacoblbhaa.P
open Go.RowKit Go.Proofs.YtcpeecacoblbhaaW.PrintWords Go.Proofs.YtcpeecacoblbhaaW.PrintLast Go.Proofs.YtcpeecacoblbhaaW.PrintMore
set_option linter.unusedVariables false
set_option linter.unusedSimpArgs false

theorem lowB_cases (c : Int) (h0 : 0 ≤ c) (h1 : c ≤ 255) : lowB c = if c ≥ 65 then (if c ≤ 90 then (c + 32) % 256 else c) else c := by
  unfold lowB
  by_cases a : 65 ≤ c
  · by_cases b : c ≤ 90
    · rw [if_pos ⟨a, b⟩, if_pos a, if_pos b]; omega
    · rw [if_neg (fun h => b h.2), if_pos a, if_neg b]
  · rw [if_neg (fun h => a h.1), if_neg a]
theorem lowB_range (c : Int) (h0 : 0 ≤ c) (h1 : c ≤ 255) : 0 ≤ lowB c ∧ lowB c ≤ 255 := by unfold lowB; split <;> omega
theorem lowB_twice (c : Int) : lowB (lowB c) = lowB c := by unfold lowB; split <;> (try split) <;> omega
theorem size_lowS (s : ByteArray) : (lowS s).size = s.size := by
  unfold lowS; rw [size_strOf, List.length_map, bytesOf_length]
theorem bytes_lowS (s : ByteArray) : bytesOf (lowS s) = (bytesOf s).map lowB := by
  unfold lowS
  refine bytesOf_strOf _ (fun x hx => ?_)
  simp only [List.mem_map] at hx
  obtain ⟨c, hc, rfl⟩ := hx
  have := bytesOf_range s c hc
  exact lowB_range c this.1 this.2
theorem lowS_twice (s : ByteArray) : lowS (lowS s) = lowS s := by
  show strOfNums ((bytesOf (lowS s)).map lowB) = lowS s
  rw [bytes_lowS, List.map_map]
  unfold lowS
  congr 1
  apply List.map_congr_left
  intro c _
  exact lowB_twice c

theorem refLower_loop (s : ByteArray) (hs : s.size ≤ 1000) (d : Nat) : ∀ i : Nat, i + d = s.size →
    Ev (fun k => abatisref01_Lower.l0 k s (((bytesOf s).take i).map lowB) (i : Int)) (lowS s) := by
  induction d with
  | zero =>
    intro i hi
    refine Ev.step (fun k => abatisref01_Lower.l0.eq_2 ..) (ev_neg (by omega) (ev_now ?_))
    rw [List.take_of_length_le (by rw [bytesOf_length]; omega)]
    rfl
  | succ d ih =>
    intro i hi
    have hr := bt_range s i
    have e : wrap64 ((i : Int) + 1) = ((i + 1 : Nat) : Int) := by unfold wrap64; omega
    have hl : (((bytesOf s).take i).map lowB).length < 140737488355328 := by
      rw [List.length_map, List.length_take, bytesOf_length]; omega
    have hn := ih (i + 1) (by omega)
    rw [bytesOf_take s i (by omega), List.map_append, List.map_cons, List.map_nil, lowB_cases _ hr.1 hr.2] at hn
    refine Ev.step (fun k => abatisref01_Lower.l0.eq_2 ..) (ev_pos (by omega) (ev_pos (by omega) ?_))
    rw [e]
    by_cases a : bt s i ≥ 65
    · by_cases b : bt s i ≤ 90
      · rw [if_pos a, if_pos b] at hn
        exact ev_pos a (ev_pos b (ev_pos hl hn))
      · rw [if_pos a, if_neg b] at hn
        exact ev_pos a (ev_neg b (ev_pos hl hn))
    · rw [if_neg a] at hn
      exact ev_neg a (ev_pos hl hn)
theorem refLower_ev (s : ByteArray) (hs : s.size ≤ 1000) : Ev (fun k => abatisref01_Lower.f k s) (lowS s) := refLower_loop s hs s.size 0 (by omega)
theorem refLike_ev (a b : ByteArray) (ha : a.size ≤ 1000) (hb : b.size ≤ 1000) : Ev (fun k => abatisref01_Like.f k a b) ((lowS a).toList == (lowS b).toList) :=
  Ev.bind (refLower_ev a ha) (Ev.bind (refLower_ev b hb) (Ev.now _))
theorem Like_eq (a b : ByteArray) (ha : a.size ≤ 1000) (hb : b.size ≤ 1000) : text_Like.f a b = some ((lowS a).toList == (lowS b).toList) := by
  unfold text_Like.f; rw [Lower_eq a ha, Lower_eq b hb]; rfl

theorem TextCases_ev (a b : ByteArray) : Ev (fun k => abatislaw01_TextCases.f k a b) true := by
  have h1 : abatisref01_Few.f a 100 = some (few a 100) := Few_eq a 100
  have h2 : abatisref01_Few.f b 100 = some (few b 100) := Few_eq b 100
  have s1 := few_size a 100
  have s2 := few_size b 100
  unfold abatislaw01_TextCases.f
  generalize few a 100 = x at *
  generalize few b 100 = y at *
  have L := Lower_eq x (by omega)
  have K1 := Like_eq x y (by omega) (by omega)
  have K2 := Like_eq y x (by omega) (by omega)
  have K3 := Like_eq x (lowS x) (by omega) (by rw [size_lowS]; omega)
  have e1 : (((lowS x).toList == (lowS y).toList) == ((lowS x).toList == (lowS y).toList)) = true := by simp
  have e2 : (((lowS y).toList == (lowS x).toList) == ((lowS x).toList == (lowS y).toList)) = true := by
    rw [Bool.beq_comm (a := (lowS y).toList == (lowS x).toList)]
    have : ((lowS y).toList == (lowS x).toList) = ((lowS x).toList == (lowS y).toList) := Bool.beq_comm
    rw [this]; simp
  have e3 : ((lowS x).toList == (lowS (lowS x)).toList) = true := by rw [lowS_twice]; simp
  refine ev_get h1 (ev_get h2 (ev_get L (Ev.bind (refLower_ev x (by omega)) (ev_pos rfl (ev_get K1 (Ev.bind (refLike_ev x y (by omega) (by omega)) (ev_pos e1 (ev_get K3 (ev_pos e3 (ev_get K2 (ev_pos e2 ?_)))))))))))
  exact Ev.bind lives01_ev (Ev.now _)
end Go.Proofs.Ytcpeecacoblbhaa.P
