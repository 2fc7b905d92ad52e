/-
  Plain law: HeadEnds.
-/
import Derived.Test.YthjhbhgfckaklaaDoorPlU
import Derived.Test.YthjhbhgfckaklaaDoorPE1
import Derived.Test.YthjhbhgfckaklaaDoorHeadL
namespace Go.Proofs.YthjhbhgfckaklaaDoor.P
open Go.RowKit Go.Proofs.YthjhbhgfckaklaaDoorW.PrintWords Go.Proofs.YthjhbhgfckaklaaDoorW.PrintLast Go.Proofs.YthjhbhgfckaklaaDoorW.PrintMore
set_option linter.unusedVariables false
set_option linter.unusedSimpArgs false
/-! ### the many lines' text -/
def linA : Nat → ByteArray
  | 0 => ⟨#[72, 84, 84, 80, 47, 49, 46, 48, 32, 53, 57, 57, 32, 120, 13, 10]⟩
  | i + 1 => linA i ++ (⟨#[97, 58, 13, 10]⟩ : ByteArray)
theorem linA_size : ∀ i, (linA i).size = 16 + 4 * i
  | 0 => rfl
  | i + 1 => by
    have z : (⟨#[97, 58, 13, 10]⟩ : ByteArray).size = 4 := rfl
    show (linA i ++ (⟨#[97, 58, 13, 10]⟩ : ByteArray)).size = _
    rw [ByteArray.size_append, linA_size i, z]
    omega
theorem linA_head : ∀ i d, (linA i).data.toList ++ headL (List.replicate d [97, 58]) = headL (segsA (i + d))
  | 0, d => by rw [Nat.zero_add]; rfl
  | i + 1, d => by
    show (linA i ++ (⟨#[97, 58, 13, 10]⟩ : ByteArray)).data.toList ++ _ = _
    rw [ByteArray.data_append, Array.toList_append, List.append_assoc]
    rw [show i + 1 + d = i + (d + 1) from by omega, ← linA_head i (d + 1)]
    rfl
theorem linA_end (n : Nat) : (linA n ++ (⟨#[13, 10]⟩ : ByteArray)).data.toList = headL (segsA n) := by
  rw [ByteArray.data_append, Array.toList_append]
  exact linA_head n 0
/-! ### a text of one letter -/
theorem letters_data (m : Nat) : (strOfNums (List.replicate m (97 : Int))).data.toList = List.replicate m (97 : UInt8) := by
  unfold strOfNums
  simp
theorem letters_size (m : Nat) : (strOfNums (List.replicate m (97 : Int))).size = m := by
  rw [← data_length, letters_data, List.length_replicate]
theorem letters_none (m : Nat) : Lib.index ((strOfNums (List.replicate m (97 : Int))).extract 0 (min (strOfNums (List.replicate m (97 : Int))).size 8192)).data.toList end4 = -1 := by
  refine Lib.index_none (fun j _ => ?_)
  by_cases c : Lib.occAt ((strOfNums (List.replicate m (97 : Int))).extract 0 (min (strOfNums (List.replicate m (97 : Int))).size 8192)).data.toList end4 j = true
  · exfalso
    have h0 := (occ_at c).1
    rw [Lib.extract_from_zero, letters_data] at h0
    have hm := List.mem_of_mem_take (List.mem_of_getElem? h0)
    have := (List.mem_replicate.1 hm).2
    exact absurd this (by decide)
  · simpa using c
def lettersB (m i : Nat) : List Int := List.replicate i 97 ++ List.replicate (m - i) 0
theorem lettersB_length (m i : Nat) (h : i ≤ m) : (lettersB m i).length = m := by
  unfold lettersB; rw [List.length_append, List.length_replicate, List.length_replicate]; omega
theorem lettersB_set (m i : Nat) (h : i < m) : (lettersB m i).set i 97 = lettersB m (i + 1) := by
  unfold lettersB
  rw [List.set_append_right _ _ (by rw [List.length_replicate]; exact Nat.le_refl _), List.length_replicate, Nat.sub_self]
  obtain ⟨q, hq⟩ : ∃ q, m - i = q + 1 := ⟨m - i - 1, by omega⟩
  rw [hq, List.replicate_succ, List.set_cons_zero, show m - (i + 1) = q from by omega, List.replicate_succ', List.append_assoc]
  rfl
theorem letters_loop (m : Nat) (hm : m ≤ 10000) (d : Nat) : ∀ i : Nat, i + d = m → Ev (fun k => abatislaw14_HeadEnds.l1 k (m : Int) (lettersB m i) (i : Int)) true := by
  induction d with
  | zero =>
    intro i hi
    obtain rfl : i = m := by omega
    have e : lettersB i i = List.replicate i 97 := by unfold lettersB; rw [Nat.sub_self]; simp
    have hr := Read_none (strOfNums (List.replicate i (97 : Int))) (by rw [letters_size]; omega) (letters_none i)
    rw [letters_size] at hr
    rw [e]
    refine Ev.step (fun k => abatislaw14_HeadEnds.l1.eq_2 ..) (ev_neg (by omega) (Ev.bind hr ?_))
    by_cases c : 8192 ≤ i
    · rw [if_pos c, decide_eq_true (by omega), decide_eq_false (by omega)]
      exact ev_pos (by decide) (ev_pos (by decide) (Ev.bind lives14_ev (Ev.now _)))
    · rw [if_neg c, decide_eq_false (by omega), decide_eq_true (by omega)]
      exact ev_pos (by decide) (ev_pos (by decide) (Ev.bind lives14_ev (Ev.now _)))
  | succ d ih =>
    intro i hi
    have e : wrap64 ((i : Int) + 1) = ((i + 1 : Nat) : Int) := by unfold wrap64; omega
    have hl := lettersB_length m i (by omega)
    have hn := ih (i + 1) (by omega)
    refine Ev.step (fun k => abatislaw14_HeadEnds.l1.eq_2 ..) (ev_pos (by omega) (ev_pos (by omega) (ev_pos (by rw [hl]; omega) ?_)))
    rw [e, Int.toNat_natCast, lettersB_set m i (by omega)]
    exact hn
theorem ends_last (a3 : Int) (ha : (Lit.int .i64 a3).wf = true) : Ev (fun k => abatislaw14_HeadEnds.j2 k a3 false) true := by
  obtain ⟨m, h0, h1, h2⟩ := Around_some a3 9001 (by decide) ha
  obtain ⟨m, rfl⟩ := Int.eq_ofNat_of_zero_le h0
  have hl := letters_loop m (by omega) m 0 (by omega)
  refine Ev.step (fun k => abatislaw14_HeadEnds.j2.eq_2 ..) (ev_neg (by decide) (ev_get h2 (ev_pos h0 (ev_pos ?_ ?_))))
  · rw [Int.toNat_natCast]; omega
  · rw [Int.toNat_natCast]
    exact hl
theorem lines_end (a3 : Int) (ha : (Lit.int .i64 a3).wf = true) (n : Nat) (hn : n ≤ 130) (d : Nat) : ∀ i : Nat, i + d = n → Ev (fun k => abatislaw14_HeadEnds.l0 k (n : Int) a3 (linA i) (i : Int)) true := by
  induction d with
  | zero =>
    intro i hi
    obtain rfl : i = n := by omega
    have hz := linA_size i
    have z2 : (⟨#[13, 10]⟩ : ByteArray).size = 2 := rfl
    obtain ⟨a, l, q, c, h1, h2⟩ := Read_lines (linA i ++ (⟨#[13, 10]⟩ : ByteArray)) i hn (linA_end i) (by rw [ByteArray.size_append]; omega)
    refine Ev.step (fun k => abatislaw14_HeadEnds.l0.eq_2 ..) (ev_neg (by omega) (ev_pos (by omega) (Ev.bind h1 ?_)))
    by_cases c1 : i ≤ 64
    · rw [h2, if_pos c1, decide_eq_true (by omega)]
      exact ev_neg (by show ¬ (((0 : Int) == 0) != true) = true; decide) (ev_pos rfl (ends_last a3 ha))
    · rw [h2, if_neg c1, decide_eq_false (by omega)]
      exact ev_neg (by show ¬ (((3 : Int) == 0) != false) = true; decide) (ev_neg (by show ¬ (3 : Int) = 0; decide) (ends_last a3 ha))
  | succ d ih =>
    intro i hi
    have e : wrap64 ((i : Int) + 1) = ((i + 1 : Nat) : Int) := by unfold wrap64; omega
    have hz := linA_size i
    have hn := ih (i + 1) (by omega)
    refine Ev.step (fun k => abatislaw14_HeadEnds.l0.eq_2 ..) (ev_pos (by omega) (ev_pos (by omega) ?_))
    rw [e]
    exact hn
theorem HeadEnds_ev (l : List S25) (a1 a2 a3 : Int) (hl : ∀ x_ ∈ l, x_.f0.size ≤ 9223372036854775807 ∧ x_.f1.size ≤ 9223372036854775807) (h1 : (Lit.int .i64 a1).wf = true) (h2 : (Lit.int .i64 a2).wf = true) (h3 : (Lit.int .i64 a3).wf = true) : Ev (fun k => abatislaw14_HeadEnds.f k l a1 a2 a3) true := by
  have hg := good_ev l hl
  have hsz := headT_size l
  have hp := print_ev (goodB l) (by have := (goodB_all l).1; omega) (goodB_hs l)
  have hh := headT_head (goodB l)
  have hok := headT_ok l
  generalize headT (goodB l) = T at *
  obtain ⟨c, c0, c1, c2⟩ := Around_some a1 (T.size : Int) (by omega) h1
  obtain ⟨c, rfl⟩ := Int.eq_ofNat_of_zero_le c0
  have hr := Read_cut T _ hok hh c (by omega) (by omega)
  obtain ⟨n, n0, n1, n2⟩ := Around_some a2 131 (by decide) h2
  obtain ⟨n, rfl⟩ := Int.eq_ofNat_of_zero_le n0
  unfold abatislaw14_HeadEnds.f
  refine Ev.bind hg (Ev.bind hp (ev_get c2 (ev_pos c0 (ev_pos (by omega) ?_))))
  rw [Int.toNat_natCast]
  refine Ev.bind hr (ev_pos rfl (ev_neg (by decide) (ev_pos rfl ?_)))
  refine Ev.step (fun k => abatislaw14_HeadEnds.j0.eq_2 ..) (ev_neg (by decide) (ev_get n2 ?_))
  exact lines_end a3 h3 n (by omega) n 0 (by omega)
end Go.Proofs.YthjhbhgfckaklaaDoor.P
