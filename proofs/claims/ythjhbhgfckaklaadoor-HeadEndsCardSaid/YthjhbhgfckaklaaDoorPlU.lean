/-
  Plain laws: headers that may be, a head's text.
-/
import Derived.Test.YthjhbhgfckaklaaDoorPhF
import Derived.Test.YthjhbhgfckaklaaDoorPlT
namespace Go.Proofs.YthjhbhgfckaklaaDoor.P
open Go.RowKit Go.Proofs.YthjhbhgfckaklaaDoorW.PrintWords Go.Proofs.YthjhbhgfckaklaaDoorW.PrintLast Go.Proofs.YthjhbhgfckaklaaDoorW.PrintMore
set_option linter.unusedVariables false
set_option linter.unusedSimpArgs false
def goodH (h : S25) : Bool := headerB h && (decide (h.f0.size ≤ 100) && decide (h.f1.size ≤ 300))
def goodB (l : List S25) : List S25 := (l.take 10).filter goodH
theorem good_parts (h : S25) (hg : goodH h = true) : headerB h = true ∧ h.f0.size ≤ 100 ∧ h.f1.size ≤ 300 := by
  unfold goodH at hg
  simp only [Bool.and_eq_true, decide_eq_true_iff] at hg
  exact ⟨hg.1, hg.2.1, hg.2.2⟩
theorem goodB_all (l : List S25) : (goodB l).length ≤ 10 ∧ ∀ h ∈ goodB l, headerB h = true ∧ h.f0.size ≤ 100 ∧ h.f1.size ≤ 300 := by
  unfold goodB
  refine ⟨Nat.le_trans (List.length_filter_le _ _) (by rw [List.length_take]; omega), fun h hh => good_parts h (List.mem_filter.1 hh).2⟩
theorem goodB_hs (l : List S25) : Hs (goodB l) := fun h hh => by have := (goodB_all l).2 h hh; omega
theorem good_loop (l : List S25) (hs : ∀ h ∈ l, h.f0.size ≤ 9223372036854775807 ∧ h.f1.size ≤ 9223372036854775807) (d : Nat) : ∀ i : Nat, i + d = min 10 l.length → Ev (fun k => abatisref14_Good.l0 k l ((l.take i).filter goodH) (i : Int)) (goodB l) := by
  induction d with
  | zero =>
    intro i hi
    have ht : (l.take i).filter goodH = goodB l := by
      unfold goodB
      obtain rfl : i = min 10 l.length := hi
      rw [← List.take_eq_take_min]
    have hj : Ev (fun k => abatisref14_Good.j1 k l (goodB l) (i : Int) false) (goodB l) := Ev.step (fun k => abatisref14_Good.j1.eq_2 ..) (ev_neg (by decide) (ev_now rfl))
    rw [ht]
    refine Ev.step (fun k => abatisref14_Good.l0.eq_2 ..) ?_
    by_cases c : (i : Int) < (l.length : Int)
    · refine ev_pos c ?_
      rw [decide_eq_false (by omega)]
      exact hj
    · exact ev_neg c hj
  | succ d ih =>
    intro i hi
    have hlt : i < l.length := by omega
    have e : wrap64 ((i : Int) + 1) = ((i + 1 : Nat) : Int) := by unfold wrap64; omega
    have hsz := hs _ (List.getElem_mem hlt)
    have hm := ih (i + 1) (by omega)
    have hsnoc : (l.take (i + 1)).filter goodH = (l.take i).filter goodH ++ (if goodH l[i] = true then [l[i]] else []) := by
      rw [List.take_add_one, List.getElem?_eq_getElem hlt, List.filter_append]
      show _ ++ List.filter goodH [l[i]] = _
      congr 1
      by_cases hgg : goodH l[i] = true
      · rw [if_pos hgg, List.filter_cons_of_pos hgg]; rfl
      · rw [if_neg hgg, List.filter_cons_of_neg hgg]; rfl
    have hlen : ((l.take i).filter goodH).length ≤ 10 := Nat.le_trans (List.length_filter_le _ _) (by rw [List.length_take]; omega)
    rw [hsnoc] at hm
    refine Ev.step (fun k => abatisref14_Good.l0.eq_2 ..) (ev_pos (by omega) ?_)
    rw [decide_eq_true (by omega)]
    refine Ev.step (fun k => abatisref14_Good.j1.eq_2 ..) (ev_pos rfl (ev_pos (by omega) (ev_pos (by omega) ?_)))
    rw [rdH_at l i hlt, e]
    refine Ev.bind (refHeader_ev l[i] hsz.1 hsz.2) ?_
    cases c1 : headerB l[i] with
    | false =>
      have hg : ¬ goodH l[i] = true := by unfold goodH; rw [c1, Bool.false_and]; decide
      rw [if_neg hg, List.append_nil] at hm
      exact ev_false hm
    | true =>
      refine ev_true ?_
      by_cases c2 : l[i].f0.size ≤ 100
      · by_cases c3 : l[i].f1.size ≤ 300
        · have hg : goodH l[i] = true := by unfold goodH; rw [c1, decide_eq_true c2, decide_eq_true c3]; rfl
          rw [if_pos hg] at hm
          exact ev_pos (by omega) (ev_pos (by omega) (ev_pos (by omega) hm))
        · have hg : ¬ goodH l[i] = true := by unfold goodH; rw [c1, decide_eq_true c2, decide_eq_false c3]; decide
          rw [if_neg hg, List.append_nil] at hm
          exact ev_pos (by omega) (ev_neg (by omega) hm)
      · have hg : ¬ goodH l[i] = true := by unfold goodH; rw [c1, decide_eq_false c2, Bool.true_and, Bool.false_and]; decide
        rw [if_neg hg, List.append_nil] at hm
        exact ev_neg (by omega) hm
theorem good_ev (l : List S25) (hs : ∀ h ∈ l, h.f0.size ≤ 9223372036854775807 ∧ h.f1.size ≤ 9223372036854775807) : Ev (fun k => abatisref14_Good.f k l) (goodB l) := good_loop l hs (min 10 l.length) 0 (by omega)

/-! ### a head's text -/
def line200 : ByteArray := ⟨#[72, 84, 84, 80, 47, 49, 46, 49, 32, 50, 48, 48]⟩
def headT (g : List S25) : ByteArray := line200 ++ crlf ++ (linesB g ++ crlf)
theorem dec200 : Ev (fun k => abatisref01_Decimal.f k 200) (⟨#[50, 48, 48]⟩ : ByteArray) := Ev.of (fun k => abatisref01_Decimal.mono 200 k) (k := 10) (by decide +kernel)
theorem print_ev (g : List S25) (hl : g.length ≤ 1000) (hh : Hs g) : Ev (fun k => abatisref14_Print.f k 200 g) (headT g) := by
  have hz := linesB_size g (hs_small g hh)
  have z0 : (⟨#[50, 48, 48]⟩ : ByteArray).size = 3 := rfl
  have z1 : (⟨#[72, 84, 84, 80, 47, 49, 46, 49, 32]⟩ : ByteArray).size = 9 := rfl
  have z2 : (⟨#[13, 10]⟩ : ByteArray).size = 2 := rfl
  have z3 : crlf.size = 2 := rfl
  unfold abatisref14_Print.f
  refine Ev.bind dec200 (Ev.step (fun k => abatisref14_Print.l0.eq_2 ..) (ev_neg (by omega) (ev_pos (by omega) (ev_pos (by rw [ByteArray.size_append]; omega) (Ev.bind (refLines_ev g hl hh) (ev_pos (by simp only [ByteArray.size_append]; omega) (ev_now ?_)))))))
  unfold headT
  have e : (⟨#[72, 84, 84, 80, 47, 49, 46, 49, 32]⟩ : ByteArray) ++ (⟨#[50, 48, 48]⟩ : ByteArray) = line200 := by apply ByteArray.ext; rfl
  rw [e]
  rfl
def segOf (h : S25) : List UInt8 := h.f0.data.toList ++ 58 :: 32 :: h.f1.data.toList
theorem lines_head : ∀ g : List S25, (linesB g ++ crlf).data.toList = headL (g.map segOf)
  | [] => by decide
  | h :: g => by
    have ih := lines_head g
    have e : (linesB (h :: g) ++ crlf) = lineB h ++ (linesB g ++ crlf) := by
      show (lineB h ++ linesB g) ++ crlf = _
      rw [ByteArray.append_assoc]
    rw [e, ByteArray.data_append, Array.toList_append, ih]
    show _ = segOf h ++ 13 :: 10 :: headL (g.map segOf)
    unfold lineB segOf
    simp [ByteArray.data_append]
theorem headT_head (g : List S25) : (headT g).data.toList = headL (line200.data.toList :: g.map segOf) := by
  unfold headT
  rw [ByteArray.data_append, Array.toList_append, lines_head, ByteArray.data_append, Array.toList_append]
  show _ = line200.data.toList ++ 13 :: 10 :: headL (g.map segOf)
  simp [crlf]
theorem bytes_no (s : ByteArray) (p : Int → Bool) (hp : p 13 = false) (h : (bytesOf s).all p = true) : ∀ b ∈ s.data.toList, b ≠ 13 := by
  intro b hb e
  subst e
  rw [List.all_eq_true] at h
  have hm : (13 : Int) ∈ bytesOf s := by
    unfold bytesOf
    exact List.mem_map.2 ⟨13, hb, rfl⟩
  have := h 13 hm
  rw [hp] at this
  cases this
theorem segOf_ok (h : S25) (hb : headerB h = true) : NoCR (segOf h) ∧ segOf h ≠ [] := by
  unfold headerB tokB at hb
  simp only [Bool.and_eq_true] at hb
  have h1 := bytes_no h.f0 tokenB (by decide +kernel) hb.1.1
  have h2 := bytes_no h.f1 okB (by decide) hb.2.1
  refine ⟨fun b hm => ?_, ?_⟩
  · unfold segOf at hm
    rcases List.mem_append.1 hm with hm | hm
    · exact h1 b hm
    · rcases List.mem_cons.1 hm with rfl | hm
      · decide
      · rcases List.mem_cons.1 hm with rfl | hm
        · decide
        · exact h2 b hm
  · unfold segOf
    simp
theorem headT_ok (l : List S25) : ∀ s ∈ line200.data.toList :: (goodB l).map segOf, NoCR s ∧ s ≠ [] := by
  have h0 : (∀ b ∈ line200.data.toList, b ≠ 13) ∧ line200.data.toList ≠ [] := by decide
  intro s hs
  rcases List.mem_cons.1 hs with rfl | hs
  · exact h0
  · simp only [List.mem_map] at hs
    obtain ⟨h, hm, rfl⟩ := hs
    exact segOf_ok h ((goodB_all l).2 h hm).1
theorem lines_small : ∀ g : List S25, (∀ h ∈ g, h.f0.size ≤ 100 ∧ h.f1.size ≤ 300) → (linesB g).size ≤ 404 * g.length
  | [], _ => Nat.zero_le _
  | h :: g, hs => by
    have ih := lines_small g (fun x hx => hs x (List.mem_cons_of_mem _ hx))
    have hh := hs h List.mem_cons_self
    show (lineB h ++ linesB g).size ≤ _
    unfold lineB
    have z2 : (⟨#[58, 32]⟩ : ByteArray).size = 2 := rfl
    have z3 : (⟨#[13, 10]⟩ : ByteArray).size = 2 := rfl
    rw [List.length_cons]
    simp only [ByteArray.size_append]
    omega
theorem headT_size (l : List S25) : (headT (goodB l)).size ≤ 4060 ∧ 16 ≤ (headT (goodB l)).size := by
  have h1 := lines_small (goodB l) (fun h hh => ((goodB_all l).2 h hh).2)
  have h2 := (goodB_all l).1
  unfold headT
  have z1 : line200.size = 12 := rfl
  have z3 : crlf.size = 2 := rfl
  simp only [ByteArray.size_append]
  omega
end Go.Proofs.YthjhbhgfckaklaaDoor.P
