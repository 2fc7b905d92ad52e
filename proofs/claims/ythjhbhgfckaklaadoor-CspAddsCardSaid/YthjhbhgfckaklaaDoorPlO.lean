/-
  Plain laws: policies of headers, and whether a page is public by them; CspPolicies, CspAdds.
-/
import Derived.Test.YthjhbhgfckaklaaDoorPlN
import Derived.Test.YthjhbhgfckaklaaDoorPL22
import Derived.Test.YthjhbhgfckaklaaDoorPL23
namespace Go.Proofs.YthjhbhgfckaklaaDoor.P
open Go.RowKit Go.Proofs.YthjhbhgfckaklaaDoorW.PrintWords Go.Proofs.YthjhbhgfckaklaaDoorW.PrintLast Go.Proofs.YthjhbhgfckaklaaDoorW.PrintMore
set_option linter.unusedVariables false
set_option linter.unusedSimpArgs false

def nCsp : ByteArray := ⟨#[67, 111, 110, 116, 101, 110, 116, 45, 83, 101, 99, 117, 114, 105, 116, 121, 45, 80, 111, 108, 105, 99, 121]⟩
def nCspL : ByteArray := ⟨#[99, 111, 110, 116, 101, 110, 116, 45, 115, 101, 99, 117, 114, 105, 116, 121, 45, 112, 111, 108, 105, 99, 121]⟩
theorem low_csp : lowS nCspL = lowS nCsp := toList_inj.1 (by decide +kernel)
def polV : List ByteArray → List (List S79)
  | [] => []
  | s :: L => if 0 < (parseB s).length then parseB s :: polV L else polV L
def GoodP (p : List S79) : Prop := p.length ≤ 2000 ∧ (∀ x ∈ p, x.f1.length ≤ 2000) ∧ LowNames p ∧ ∀ d ∈ p, d.f0.size ≤ 1000000
theorem good_parse (s : ByteArray) (hs : s.size ≤ 1000) : GoodP (parseB s) := ⟨(parse_small s hs).1, (parse_small s hs).2, (parse_low s hs).1, (parse_low s hs).2⟩
theorem polV_good : ∀ L : List ByteArray, (∀ s ∈ L, s.size ≤ 1000) → ∀ p ∈ polV L, GoodP p
  | [], _, p, hp => by cases hp
  | s :: L, hL, p, hp => by
    have ih := polV_good L (fun q hq => hL q (List.mem_cons_of_mem _ hq))
    unfold polV at hp
    split at hp
    · rcases List.mem_cons.1 hp with rfl | hp
      · exact good_parse s (hL s List.mem_cons_self)
      · exact ih p hp
    · exact ih p hp
theorem polV_length : ∀ L : List ByteArray, (polV L).length ≤ L.length
  | [] => Nat.le_refl _
  | s :: L => by
    have := polV_length L
    unfold polV
    split
    · rw [List.length_cons, List.length_cons]; omega
    · rw [List.length_cons]; omega
theorem polV_append : ∀ a b, polV (a ++ b) = polV a ++ polV b
  | [], b => rfl
  | s :: a, b => by
    have e1 : ∀ l, polV (s :: l) = if 0 < (parseB s).length then parseB s :: polV l else polV l := fun _ => rfl
    rw [List.cons_append, e1, e1, polV_append a b]
    split <;> rfl
theorem pol_loop (L : List ByteArray) (hL : ∀ s ∈ L, s.size ≤ 1000) (hl : L.length ≤ 2000000) (d : Nat) : ∀ (i : Nat) (out : List (List S79)), i + d = L.length → out.length ≤ i →
    Ev (fun k => csp_Policies.l0 k out L (L.length : Int) (i : Int)) (out ++ polV (L.drop i)) := by
  induction d with
  | zero =>
    intro i out hi ho
    rw [List.drop_of_length_le (by omega)]
    exact Ev.step (fun k => csp_Policies.l0.eq_2 ..) (ev_neg (by omega) (ev_now (List.append_nil out).symm))
  | succ d ih =>
    intro i out hi ho
    have hlt : i < L.length := by omega
    have e : wrap64 ((i : Int) + 1) = ((i + 1 : Nat) : Int) := by unfold wrap64; omega
    have hs := hL _ (List.getElem_mem hlt)
    rw [List.drop_eq_getElem_cons hlt]
    unfold polV
    refine Ev.step (fun k => csp_Policies.l0.eq_2 ..) (ev_pos (by omega) (ev_pos (by omega) (ev_pos (by omega) ?_)))
    rw [rdOf_at L i hlt, e]
    refine Ev.bind (Parse_ev L[i] hs) ?_
    by_cases c : 0 < (parseB L[i]).length
    · rw [if_pos c]
      have hr := ih (i + 1) (out ++ [parseB L[i]]) (by omega) (by rw [List.length_append, List.length_cons, List.length_nil]; omega)
      rw [List.append_assoc, List.singleton_append] at hr
      exact ev_pos (by omega) (ev_pos (by omega) hr)
    · rw [if_neg c]
      exact ev_neg (by omega) (ih (i + 1) out (by omega) (by omega))
def polB (l : List S25) : List (List S79) := polV (listV (allB nCsp l))
theorem list_bounds (l : List S25) (hl : l.length ≤ 1000) (hh : Hs l) : (listV (allB nCsp l)).length ≤ 1001000 ∧ ∀ s ∈ listV (allB nCsp l), s.size ≤ 1000 := by
  have h1 := listV_length (allB nCsp l) (allB_size nCsp l hh)
  have h2 := allB_length nCsp l
  exact ⟨by omega, listV_size _ (allB_size nCsp l hh)⟩
theorem pol_good (l : List S25) (hl : l.length ≤ 1000) (hh : Hs l) : (polB l).length ≤ 1001000 ∧ ∀ p ∈ polB l, GoodP p :=
  ⟨Nat.le_trans (polV_length _) (list_bounds l hl hh).1, polV_good _ (list_bounds l hl hh).2⟩
theorem nCsp_size : nCsp.size ≤ 1000 := by decide
theorem nCspL_size : nCspL.size ≤ 1000 := by decide
theorem Policies_ev (l : List S25) (hl : l.length ≤ 1000) (hh : Hs l) : Ev (fun k => csp_Policies.f k l) (polB l) := by
  have hb := list_bounds l hl hh
  unfold csp_Policies.f
  refine Ev.bind (List_ev nCsp nCsp_size l hl hh) ?_
  exact pol_loop _ hb.2 (by omega) (listV (allB nCsp l)).length 0 [] (by omega) (by simp)
theorem refPol_loop (L : List ByteArray) (hL : ∀ s ∈ L, s.size ≤ 1000) (hl : L.length ≤ 2000000) (d : Nat) : ∀ (i : Nat) (out : List (List S79)), i + d = L.length → out.length ≤ i →
    Ev (fun k => abatisref15_Policies.l0 k L (out.map asB) (i : Int)) ((out ++ polV (L.drop i)).map asB) := by
  induction d with
  | zero =>
    intro i out hi ho
    rw [List.drop_of_length_le (by omega)]
    exact Ev.step (fun k => abatisref15_Policies.l0.eq_2 ..) (ev_neg (by omega) (ev_now (congrArg (List.map asB) (List.append_nil out).symm)))
  | succ d ih =>
    intro i out hi ho
    have hlt : i < L.length := by omega
    have e : wrap64 ((i : Int) + 1) = ((i + 1 : Nat) : Int) := by unfold wrap64; omega
    have hs := hL _ (List.getElem_mem hlt)
    have hal := asB_length (parseB L[i])
    rw [List.drop_eq_getElem_cons hlt]
    unfold polV
    refine Ev.step (fun k => abatisref15_Policies.l0.eq_2 ..) (ev_pos (by omega) (ev_pos (by omega) ?_))
    rw [rdOf_at L i hlt, e]
    refine Ev.bind (refParse_ev L[i] hs) ?_
    by_cases c : 0 < (parseB L[i]).length
    · rw [if_pos c]
      have hr := ih (i + 1) (out ++ [parseB L[i]]) (by omega) (by rw [List.length_append, List.length_cons, List.length_nil]; omega)
      rw [List.append_assoc, List.singleton_append, List.map_append, List.map_cons, List.map_nil] at hr
      exact ev_pos (by omega) (ev_pos (by rw [List.length_map]; omega) hr)
    · rw [if_neg c]
      exact ev_neg (by omega) (ih (i + 1) out (by omega) (by omega))
theorem refPolicies_ev (l : List S25) (hl : l.length ≤ 1000) (hh : Hs l) : Ev (fun k => abatisref15_Policies.f k l) ((polB l).map asB) := by
  have hb := list_bounds l hl hh
  unfold abatisref15_Policies.f
  have h1 := refList_ev nCspL nCspL_size l hl hh
  rw [allB_like nCspL nCsp low_csp] at h1
  refine Ev.bind h1 ?_
  exact refPol_loop _ hb.2 (by omega) (listV (allB nCsp l)).length 0 [] (by omega) (by simp)

/-! ### public -/
def pubAny : List (List S79) → Bool
  | [] => false
  | p :: P => if 0 ≤ idxB pubWord p 0 then true else pubAny P
theorem pubWord_size : pubWord.size ≤ 140737488352000 := by decide
theorem hasPub_eq (p : List S79) (hg : GoodP p) : hasPub p = some (decide (0 ≤ idxB pubWord p 0)) := by
  unfold hasPub
  rw [Find_eq p pubWord pubWord_size hg.2.2.2 (fun d hd => Nat.le_trans (hg.2.1 d hd) (by omega))]
  show some (findB p pubWord).2 = _
  unfold findB
  by_cases c : idxB pubWord p 0 < 0
  · rw [if_pos c, decide_eq_false (by omega)]
  · rw [if_neg c, decide_eq_true (by omega)]
theorem pubFrom_eq : ∀ (P : List (List S79)) (i : Nat), (∀ p ∈ P, GoodP p) → ∃ r, pubFrom P (i : Int) = some r ∧ decide (0 ≤ r) = pubAny P
  | [], i, _ => ⟨-1, rfl, rfl⟩
  | p :: P, i, hP => by
    obtain ⟨r, h1, h2⟩ := pubFrom_eq P (i + 1) (fun q hq => hP q (List.mem_cons_of_mem _ hq))
    unfold pubFrom pubAny
    rw [hasPub_eq p (hP p List.mem_cons_self)]
    by_cases c : 0 ≤ idxB pubWord p 0
    · rw [if_pos c, decide_eq_true c]
      exact ⟨i, rfl, decide_eq_true (by omega)⟩
    · rw [if_neg c, decide_eq_false c]
      exact ⟨r, h1, h2⟩
theorem Public_ev (l : List S25) (hl : l.length ≤ 1000) (hh : Hs l) : Ev (fun k => csp_Public.f k l) (pubAny (polB l)) := by
  obtain ⟨r, h1, h2⟩ := pubFrom_eq (polB l) 0 (pol_good l hl hh).2
  unfold csp_Public.f
  exact Ev.bind (Policies_ev l hl hh) (ev_get h1 (ev_now h2))
theorem rdP_at (P : List (List S79)) (i : Nat) (h : i < P.length) : rd_LKd_slice_79_k79 P (i : Int) = P[i] := by
  unfold rd_LKd_slice_79_k79
  rw [Int.toNat_natCast, List.getD_eq_getElem?_getD, List.getElem?_eq_getElem h]
  rfl
theorem rdQ_at (P : List (List S79)) (i : Nat) (h : i < P.length) : rd_LKd_slice_77_k77 (P.map asB) (i : Int) = asB P[i] := by
  unfold rd_LKd_slice_77_k77
  rw [Int.toNat_natCast, List.getD_eq_getElem?_getD, List.getElem?_map, List.getElem?_eq_getElem h]
  rfl
theorem refPub_loop (P : List (List S79)) (hP : ∀ p ∈ P, GoodP p) (hl : P.length ≤ 2000000) (d : Nat) : ∀ i : Nat, i + d = P.length → Ev (fun k => abatisref15_Public.l0 k (P.map asB) (i : Int)) (pubAny (P.drop i)) := by
  induction d with
  | zero =>
    intro i hi
    rw [List.drop_of_length_le (by omega)]
    exact Ev.step (fun k => abatisref15_Public.l0.eq_2 ..) (ev_neg (by rw [List.length_map]; omega) (ev_now rfl))
  | succ d ih =>
    intro i hi
    have hlt : i < P.length := by omega
    have e : wrap64 ((i : Int) + 1) = ((i + 1 : Nat) : Int) := by unfold wrap64; omega
    have hg := hP _ (List.getElem_mem hlt)
    have h1 := hg.1
    rw [List.drop_eq_getElem_cons hlt]
    unfold pubAny
    refine Ev.step (fun k => abatisref15_Public.l0.eq_2 ..) (ev_pos (by rw [List.length_map]; omega) (ev_pos (by omega) ?_))
    rw [rdQ_at P i hlt, e]
    refine Ev.bind (refFind_ev pubWord pubWord_size P[i] (by omega) hg.2.2.2) ?_
    by_cases c : 0 ≤ idxB pubWord P[i] 0
    · rw [if_pos c]
      exact ev_pos c (ev_now rfl)
    · rw [if_neg c]
      exact ev_neg c (ih (i + 1) (by omega))
theorem refPublic_ev (l : List S25) (hl : l.length ≤ 1000) (hh : Hs l) : Ev (fun k => abatisref15_Public.f k l) (pubAny (polB l)) := by
  have hg := pol_good l hl hh
  unfold abatisref15_Public.f
  exact Ev.bind (refPolicies_ev l hl hh) (refPub_loop (polB l) hg.2 (by omega) (polB l).length 0 (by omega))

/-! ### CspPolicies -/
def fewH (h : S25) : S25 := ⟨few h.f0 80, few h.f1 80⟩
def ownB (l : List S25) : List S25 := (l.take 8).map fewH
theorem own_small (l : List S25) : (ownB l).length ≤ 8 ∧ ∀ h ∈ ownB l, h.f0.size ≤ 80 ∧ h.f1.size ≤ 80 := by
  unfold ownB
  refine ⟨by rw [List.length_map, List.length_take]; omega, fun h hh => ?_⟩
  simp only [List.mem_map] at hh
  obtain ⟨x, _, rfl⟩ := hh
  exact ⟨few_size _ _, few_size _ _⟩
theorem own_hs (l : List S25) : Hs (ownB l) := fun h hh => ⟨Nat.le_trans ((own_small l).2 h hh).1 (by omega), Nat.le_trans ((own_small l).2 h hh).2 (by omega)⟩
theorem own_all (l : List S25) (i : Nat) (h : i = min 8 l.length) : (l.take i).map fewH = ownB l := by
  unfold ownB
  subst h
  rw [← List.take_eq_take_min]
theorem own_more (l : List S25) (i : Nat) (h : i < l.length) : (l.take (i + 1)).map fewH = (l.take i).map fewH ++ [⟨few l[i].f0 80, few l[i].f1 80⟩] := by
  rw [List.take_add_one, List.getElem?_eq_getElem h, List.map_append]
  rfl
theorem policies_l1 (own : List S25) (hl : own.length ≤ 1000) (hh : Hs own) (P : List (List S79)) (hP : ∀ p ∈ P, GoodP p) (hPl : P.length ≤ 2000000) (d : Nat) : ∀ i : Nat, i + d = P.length → Ev (fun k => abatislaw15_CspPolicies.l1 k own P (P.map asB) (i : Int)) true := by
  induction d with
  | zero =>
    intro i hi
    refine Ev.step (fun k => abatislaw15_CspPolicies.l1.eq_2 ..) (ev_neg (by omega) (Ev.bind (Public_ev own hl hh) (Ev.bind (refPublic_ev own hl hh) (ev_pos (by simp) (Ev.bind lives15_ev (Ev.now _))))))
  | succ d ih =>
    intro i hi
    have hlt : i < P.length := by omega
    have e : wrap64 ((i : Int) + 1) = ((i + 1 : Nat) : Int) := by unfold wrap64; omega
    have hg := hP _ (List.getElem_mem hlt)
    have h1 := hg.1
    refine Ev.step (fun k => abatislaw15_CspPolicies.l1.eq_2 ..) (ev_pos (by omega) (ev_pos (by omega) ?_))
    rw [rdP_at P i hlt, rdQ_at P i hlt, e]
    refine Ev.bind (as_ev P[i] (by omega)) (ev_pos (by rw [List.length_map]; omega) (Ev.bind (sameAs_ev P[i] (by omega) (fun x hx => Nat.le_trans (hg.2.1 x hx) (by omega))) (ev_true (ih (i + 1) (by omega)))))
theorem policies_j1 (l own : List S25) (hl : own.length ≤ 1000) (hh : Hs own) (x4 : Int) : Ev (fun k => abatislaw15_CspPolicies.j1 k l own x4 false) true := by
  have hg := pol_good own hl hh
  refine Ev.step (fun k => abatislaw15_CspPolicies.j1.eq_2 ..) (ev_neg (by decide) (Ev.bind (Policies_ev own hl hh) (Ev.bind (refPolicies_ev own hl hh) (ev_pos (by rw [List.length_map]) ?_))))
  exact policies_l1 own hl hh (polB own) hg.2 (by omega) (polB own).length 0 (by omega)
theorem policies_l0 (l : List S25) (d : Nat) : ∀ i : Nat, i + d = min 8 l.length → Ev (fun k => abatislaw15_CspPolicies.l0 k l ((l.take i).map fewH) (i : Int)) true := by
  have hs := own_small l
  induction d with
  | zero =>
    intro i hi
    have hj := policies_j1 l (ownB l) (by omega) (own_hs l) (i : Int)
    rw [own_all l i hi]
    refine Ev.step (fun k => abatislaw15_CspPolicies.l0.eq_2 ..) ?_
    by_cases c : (i : Int) < (l.length : Int)
    · refine ev_pos c ?_
      rw [decide_eq_false (by omega)]
      exact hj
    · exact ev_neg c hj
  | succ d ih =>
    intro i hi
    have hlt : i < l.length := by omega
    have e : wrap64 ((i : Int) + 1) = ((i + 1 : Nat) : Int) := by unfold wrap64; omega
    have hn := ih (i + 1) (by omega)
    rw [own_more l i hlt] at hn
    refine Ev.step (fun k => abatislaw15_CspPolicies.l0.eq_2 ..) (ev_pos (by omega) ?_)
    rw [decide_eq_true (by omega)]
    refine Ev.step (fun k => abatislaw15_CspPolicies.j1.eq_2 ..) (ev_pos rfl (ev_pos (by omega) (ev_pos (by omega) ?_)))
    rw [rdH_at l i hlt, e]
    refine ev_get (Few_eq _ 80) (ev_get (Few_eq _ 80) (ev_pos ?_ hn))
    rw [List.length_map, List.length_take]; omega
theorem CspPolicies_ev (l : List S25) : Ev (fun k => abatislaw15_CspPolicies.f k l) true := policies_l0 l (min 8 l.length) 0 (by omega)

/-! ### CspAdds -/
def pubGreat : ByteArray := ⟨#[84, 82, 69, 65, 84, 45, 65, 83, 45, 80, 85, 66, 76, 73, 67, 45, 65, 68, 68, 82, 69, 83, 83]⟩
def nul : ByteArray := ⟨#[]⟩
def catB : List ByteArray → ByteArray
  | [] => nul
  | x :: l => x ++ catB l
theorem join_nul (L : List ByteArray) : ∀ a : ByteArray, L.foldl (jStep nul) (some a) = some (a ++ catB L) := by
  induction L with
  | nil => intro a; show some a = some (a ++ nul); rw [show a ++ nul = a from append_empty' a]
  | cons x L ih =>
    intro a
    rw [List.foldl_cons]
    show L.foldl (jStep nul) (some (a ++ nul ++ x)) = _
    rw [show a ++ nul = a from append_empty' a, ih]
    show _ = some (a ++ (x ++ catB L))
    rw [ByteArray.append_assoc]
theorem cat_split (c : Int) : ∀ l : List Int, strOfNums (splitB c l).1 ++ catB ((splitB c l).2.map strOfNums) = strOfNums (l.filter (fun x => decide (x ≠ c)))
  | [] => append_empty' _
  | x :: l => by
    have ih := cat_split c l
    have e1 : splitB c (x :: l) = if x = c then ([], (splitB c l).1 :: (splitB c l).2) else (x :: (splitB c l).1, (splitB c l).2) := rfl
    rw [e1]
    by_cases h : x = c
    · rw [if_pos h, List.filter_cons_of_neg (by simp [h]), ← ih]
      show nul ++ (strOfNums (splitB c l).1 ++ catB ((splitB c l).2.map strOfNums)) = _
      rw [show ∀ z : ByteArray, nul ++ z = z from empty_append']
    · rw [if_neg h, List.filter_cons_of_pos (by simp [h])]
      show strOfNums ([x] ++ (splitB c l).1) ++ catB ((splitB c l).2.map strOfNums) = strOfNums ([x] ++ _)
      rw [strOf_append, strOf_append, ByteArray.append_assoc, ih]
def bare (s : ByteArray) : List Int := (bytesOf s).filter (fun x => decide (x ≠ 44))
theorem join_pieces (s : ByteArray) : joinB nul (pieces s 44) = strOfNums (bare s) := by
  unfold joinB jOpt pieces
  rw [List.foldl_cons]
  show (List.foldl (jStep nul) (some (strOfNums (splitB 44 (bytesOf s)).1)) _).getD _ = _
  rw [join_nul]
  exact cat_split 44 (bytesOf s)
theorem bare_length (s : ByteArray) : (bare s).length ≤ s.size := by
  unfold bare
  have := List.length_filter_le (fun x => decide (x ≠ 44)) (bytesOf s)
  rw [bytesOf_length] at this
  exact this
theorem bare_mem (s : ByteArray) : ∀ x ∈ bare s, x ≠ 44 ∧ 0 ≤ x ∧ x ≤ 255 := by
  intro x hx
  unfold bare at hx
  rw [List.mem_filter] at hx
  refine ⟨by simpa using hx.2, ?_⟩
  have h := hx.1
  unfold bytesOf at h
  simp only [List.mem_map] at h
  obtain ⟨b, _, rfl⟩ := h
  have := b.toNat_lt
  omega
theorem split_none (c : Int) : ∀ l : List Int, (∀ x ∈ l, x ≠ c) → splitB c l = (l, [])
  | [], _ => rfl
  | x :: l, h => by
    have e1 : splitB c (x :: l) = if x = c then ([], (splitB c l).1 :: (splitB c l).2) else (x :: (splitB c l).1, (splitB c l).2) := rfl
    rw [e1, if_neg (h x List.mem_cons_self), split_none c l (fun y hy => h y (List.mem_cons_of_mem _ hy))]
/-- What stands behind the text ahead. -/
def tailW (word : ByteArray) : ByteArray := (⟨#[59, 9]⟩ : ByteArray) ++ word ++ (⟨#[32, 120]⟩ : ByteArray)
def tail2 (word : ByteArray) : ByteArray := (⟨#[9]⟩ : ByteArray) ++ word ++ (⟨#[32, 120]⟩ : ByteArray)
theorem tail_facts (word : ByteArray) (h : word = pubWord ∨ word = pubGreat) :
    lowS word = lowS pubWord ∧ wordsOf (tail2 word) = [word, (⟨#[120]⟩ : ByteArray)] ∧ pieces (tail2 word) 59 = [tail2 word] ∧ (∀ x ∈ bytesOf (tailW word), x ≠ 44) ∧ (tailW word).size = 27 ∧
      (tailW word).data.toList.head? = some 59 ∧ (tailW word).data.toList.reverse.head? = some 120 ∧ word.size = 23 := by
  rcases h with rfl | rfl
  · refine ⟨rfl, ?_, ?_, ?_, ?_, ?_, ?_, ?_⟩ <;> decide +kernel
  · refine ⟨?_, ?_, ?_, ?_, ?_, ?_, ?_, ?_⟩ <;> decide +kernel
theorem drop_end (p : UInt8 → Bool) (a b : List UInt8) (x : UInt8) (hx : b.head? = some x) (hp : p x = false) : (a ++ b).dropWhile p = a.dropWhile p ++ b := by
  have hb : b.dropWhile p = b := by
    cases b with
    | nil => cases hx
    | cons y b =>
      cases hx
      rw [List.dropWhile_cons, if_neg (by rw [hp]; decide)]
  rw [List.dropWhile_append]
  split
  · rename_i h
    rw [List.isEmpty_iff] at h
    rw [h, hb]
    rfl
  · rfl
theorem trim_tail (a word : ByteArray) (h : word = pubWord ∨ word = pubGreat) : ∃ a2 : ByteArray, a2.size ≤ a.size ∧ trimB (a ++ tailW word) = a2 ++ tailW word := by
  obtain ⟨_, _, _, _, _, h1, h2, _⟩ := tail_facts word h
  refine ⟨⟨(a.data.toList.dropWhile (([32, 9] : List UInt8).contains ·)).toArray⟩, ?_, ?_⟩
  · have := (List.dropWhile_sublist (l := a.data.toList) (([32, 9] : List UInt8).contains ·)).length_le
    rw [data_length] at this
    exact this
  · unfold trimB Lib.trimS Lib.trimRightS Lib.trimLeftS
    have e0 : (a ++ tailW word).data.toList = a.data.toList ++ (tailW word).data.toList := by simp
    have e1 : (a.data.toList ++ (tailW word).data.toList).reverse.dropWhile (([32, 9] : List UInt8).contains ·) = (a.data.toList ++ (tailW word).data.toList).reverse := by
      rw [List.reverse_append]
      cases hr : (tailW word).data.toList.reverse with
      | nil => rw [hr] at h2; cases h2
      | cons y l =>
        rw [hr] at h2
        cases h2
        rw [List.cons_append, List.dropWhile_cons, if_neg (by decide)]
    rw [e0, e1, List.reverse_reverse, drop_end _ _ _ 59 h1 (by decide)]
    apply ByteArray.ext
    simp
theorem tail_known (a2 word : ByteArray) (ha : a2.size ≤ 100) (h : word = pubWord ∨ word = pubGreat) : 0 ≤ idxB pubWord (parseB (a2 ++ tailW word)) 0 ∧ 0 < (parseB (a2 ++ tailW word)).length := by
  obtain ⟨h1, h2, h3, h4, h5, _⟩ := tail_facts word h
  have e0 : a2 ++ tailW word = a2 ++ (⟨#[59]⟩ : ByteArray) ++ tail2 word := by
    have e59 : (⟨#[59, 9]⟩ : ByteArray) = (⟨#[59]⟩ : ByteArray) ++ (⟨#[9]⟩ : ByteArray) := by apply ByteArray.ext; rfl
    unfold tailW tail2
    rw [e59]
    simp only [ByteArray.append_assoc]
  have hsz : (a2 ++ tailW word).size ≤ 1000 := by rw [ByteArray.size_append, h5]; omega
  have hl := (parse_low (a2 ++ tailW word) hsz).1
  have hm : memB (lowS pubWord) (dNames (parseB (a2 ++ tailW word))) = true := by
    unfold parseB
    rw [e0, pieces_append a2 (tail2 word) (⟨#[59]⟩ : ByteArray) 59 (by decide +kernel), h3, List.foldl_append, List.foldl_cons, List.foldl_nil, ← h1]
    exact known_now _ (tail2 word) word _ h2
  refine ⟨?_, ?_⟩
  · by_cases c : idxB pubWord (parseB (a2 ++ tailW word)) 0 < 0
    · have := (idxB_mem pubWord _ 0 hl).1 c
      rw [this] at hm
      cases hm
    · omega
  · cases hp : parseB (a2 ++ tailW word) with
    | nil => rw [hp] at hm; cases hm
    | cons x l => rw [List.length_cons]; omega
theorem pubAny_append : ∀ P Q : List (List S79), pubAny (P ++ Q) = (pubAny P || pubAny Q)
  | [], Q => rfl
  | p :: P, Q => by
    have e1 : ∀ l, pubAny (p :: l) = if 0 ≤ idxB pubWord p 0 then true else pubAny l := fun _ => rfl
    rw [List.cons_append, e1, e1, pubAny_append P Q]
    split <;> simp
theorem like_great : likeB (⟨#[67, 79, 78, 84, 69, 78, 84, 45, 115, 101, 99, 117, 114, 105, 116, 121, 45, 80, 79, 76, 73, 67, 89]⟩ : ByteArray) nCsp = true := by decide +kernel
theorem like_x : likeB (⟨#[88]⟩ : ByteArray) nCsp = false := by decide +kernel
theorem more_public (own : List S25) (s word : ByteArray) (hs : s.size ≤ 40) (h : word = pubWord ∨ word = pubGreat) :
    pubAny (polB (own ++ [⟨(⟨#[67, 79, 78, 84, 69, 78, 84, 45, 115, 101, 99, 117, 114, 105, 116, 121, 45, 80, 79, 76, 73, 67, 89]⟩ : ByteArray), strOfNums (bare s) ++ tailW word⟩])) = true := by
  obtain ⟨h1, h2, h3, h4, h5, _⟩ := tail_facts word h
  obtain ⟨a2, ha, ht⟩ := trim_tail (strOfNums (bare s)) word h
  have hz : (strOfNums (bare s)).size ≤ 40 := by rw [size_strOf]; exact Nat.le_trans (bare_length s) hs
  obtain ⟨hk, hp⟩ := tail_known a2 word (by omega) h
  have hpc : pieces (strOfNums (bare s) ++ tailW word) 44 = [strOfNums (bare s) ++ tailW word] := by
    unfold pieces
    rw [split_none 44 _ (fun x hx => ?_)]
    · show strOfNums (bytesOf _) :: [] = _
      rw [strOf_bytesOf]
    · rw [bytesOf_append, List.mem_append, bytesOf_strOf _ (fun y hy => (bare_mem s y hy).2)] at hx
      rcases hx with hx | hx
      · exact (bare_mem s x hx).1
      · exact h4 x hx
  have hne : ¬ ((a2 ++ tailW word).toList = ([] : List UInt8)) := by
    intro he
    have hbz := (empty_iff (a2 ++ tailW word)).1 he
    have := congrArg List.length hbz
    rw [bytesOf_length, ByteArray.size_append, h5, List.length_nil] at this
    omega
  have e1 : allB nCsp [⟨(⟨#[67, 79, 78, 84, 69, 78, 84, 45, 115, 101, 99, 117, 114, 105, 116, 121, 45, 80, 79, 76, 73, 67, 89]⟩ : ByteArray), strOfNums (bare s) ++ tailW word⟩] = [strOfNums (bare s) ++ tailW word] := if_pos like_great
  have e2 : listV [strOfNums (bare s) ++ tailW word] = [a2 ++ tailW word] := by
    have e : listV [strOfNums (bare s) ++ tailW word] = keepT (pieces (strOfNums (bare s) ++ tailW word) 44) ++ [] := rfl
    rw [e, hpc, List.append_nil]
    have e' : keepT [strOfNums (bare s) ++ tailW word] = if (trimB (strOfNums (bare s) ++ tailW word)).toList = ([] : List UInt8) then [] else [trimB (strOfNums (bare s) ++ tailW word)] := rfl
    rw [e', ht, if_neg hne]
  have e3 : polV [a2 ++ tailW word] = [parseB (a2 ++ tailW word)] := if_pos hp
  unfold polB
  rw [allB_append, listV_append, polV_append, pubAny_append, e1, e2, e3]
  have e4 : pubAny [parseB (a2 ++ tailW word)] = true := if_pos hk
  rw [e4, Bool.or_true]
theorem other_public (own : List S25) (word : ByteArray) : pubAny (polB (own ++ [⟨(⟨#[88]⟩ : ByteArray), word⟩])) = pubAny (polB own) := by
  have e1 : allB nCsp [⟨(⟨#[88]⟩ : ByteArray), word⟩] = [] := if_neg (by rw [like_x]; decide)
  unfold polB
  rw [allB_append, e1, List.append_nil]
theorem hs_more (own : List S25) (hh : Hs own) (x : S25) (h0 : x.f0.size ≤ 1000) (h1 : x.f1.size ≤ 1000) : Hs (own ++ [x]) := by
  intro h hm
  rcases List.mem_append.1 hm with hm | hm
  · exact hh h hm
  · rw [List.mem_singleton.1 hm]; exact ⟨h0, h1⟩
theorem adds_j2 (own : List S25) (hl : own.length ≤ 8) (hh : Hs own) (s word : ByteArray) (hw : word = pubWord ∨ word = pubGreat) : Ev (fun k => abatislaw15_CspAdds.j2 k s own word) true := by
  have h1 : abatisref01_Few.f s 40 = some (few s 40) := Few_eq s 40
  have hf := few_size s 40
  refine Ev.step (fun k => abatislaw15_CspAdds.j2.eq_2 ..) (ev_get h1 ?_)
  generalize few s 40 = t at *
  obtain ⟨_, _, _, _, h5, _, _, h8⟩ := tail_facts word hw
  have hp := pieces_length t 44
  have hj := join_pieces t
  have hz : (strOfNums (bare t)).size ≤ 40 := by rw [size_strOf]; exact Nat.le_trans (bare_length t) hf
  have hje : Ev (fun k => abatisref01_Join.f k (pieces t 44) nul) (strOfNums (bare t)) := by
    rw [← hj]
    refine join_ev _ _ (by omega) ?_
    unfold jSize
    rw [hj]
    omega
  refine Ev.bind (refSplit_ev t 44 (by omega)) (Ev.bind hje (ev_pos (by rw [List.length_nil]; omega) (ev_get rfl ?_)))
  have z2 : (⟨#[59, 9]⟩ : ByteArray).size = 2 := rfl
  have z3 : (⟨#[32, 120]⟩ : ByteArray).size = 2 := rfl
  have ev1 : strOfNums (bare t) ++ (⟨#[59, 9]⟩ : ByteArray) ++ word ++ (⟨#[32, 120]⟩ : ByteArray) = strOfNums (bare t) ++ tailW word := by
    unfold tailW
    rw [ByteArray.append_assoc, ByteArray.append_assoc, ByteArray.append_assoc]
  refine ev_pos (by omega) (ev_pos (by rw [ByteArray.size_append]; omega) (ev_pos (by rw [ByteArray.size_append, ByteArray.size_append]; omega) (ev_pos (by show own.length < _; omega) (ev_get rfl (ev_pos (by show own.length < _; omega) ?_)))))
  rw [ev1]
  have hp1 := Public_ev (own ++ [⟨(⟨#[67, 79, 78, 84, 69, 78, 84, 45, 115, 101, 99, 117, 114, 105, 116, 121, 45, 80, 79, 76, 73, 67, 89]⟩ : ByteArray), strOfNums (bare t) ++ tailW word⟩]) (by rw [List.length_append, List.length_cons, List.length_nil]; omega)
    (hs_more own hh _ (by show (23 : Nat) ≤ 1000; omega) (by show (strOfNums (bare t) ++ tailW word).size ≤ 1000; rw [ByteArray.size_append]; omega))
  rw [more_public own t word hf hw] at hp1
  have hp2 := Public_ev (own ++ [⟨(⟨#[88]⟩ : ByteArray), word⟩]) (by rw [List.length_append, List.length_cons, List.length_nil]; omega)
    (hs_more own hh _ (by show (1 : Nat) ≤ 1000; omega) (by show word.size ≤ 1000; omega))
  rw [other_public own word] at hp2
  exact Ev.bind hp1 (ev_true (Ev.bind hp2 (Ev.bind (Public_ev own (by omega) hh) (ev_pos (by simp) (Ev.bind lives15_ev (Ev.now _))))))
theorem adds_j1 (l own : List S25) (hl : own.length ≤ 8) (hh : Hs own) (s : ByteArray) (g : Bool) (x4 : Int) : Ev (fun k => abatislaw15_CspAdds.j1 k l s g own x4 false) true := by
  refine Ev.step (fun k => abatislaw15_CspAdds.j1.eq_2 ..) (ev_neg (by decide) ?_)
  cases g with
  | true => exact ev_pos rfl (adds_j2 own hl hh s pubGreat (.inr rfl))
  | false => exact ev_neg (by decide) (adds_j2 own hl hh s pubWord (.inl rfl))
theorem adds_l0 (l : List S25) (s : ByteArray) (g : Bool) (d : Nat) : ∀ i : Nat, i + d = min 8 l.length → Ev (fun k => abatislaw15_CspAdds.l0 k l s g ((l.take i).map fewH) (i : Int)) true := by
  have hs := own_small l
  induction d with
  | zero =>
    intro i hi
    have hj := adds_j1 l (ownB l) hs.1 (own_hs l) s g (i : Int)
    rw [own_all l i hi]
    refine Ev.step (fun k => abatislaw15_CspAdds.l0.eq_2 ..) ?_
    by_cases c : (i : Int) < (l.length : Int)
    · refine ev_pos c ?_
      rw [decide_eq_false (by omega)]
      exact hj
    · exact ev_neg c hj
  | succ d ih =>
    intro i hi
    have hlt : i < l.length := by omega
    have e : wrap64 ((i : Int) + 1) = ((i + 1 : Nat) : Int) := by unfold wrap64; omega
    have hn := ih (i + 1) (by omega)
    rw [own_more l i hlt] at hn
    refine Ev.step (fun k => abatislaw15_CspAdds.l0.eq_2 ..) (ev_pos (by omega) ?_)
    rw [decide_eq_true (by omega)]
    refine Ev.step (fun k => abatislaw15_CspAdds.j1.eq_2 ..) (ev_pos rfl (ev_pos (by omega) (ev_pos (by omega) ?_)))
    rw [rdH_at l i hlt, e]
    refine ev_get (Few_eq _ 80) (ev_get (Few_eq _ 80) (ev_pos ?_ hn))
    rw [List.length_map, List.length_take]; omega
theorem CspAdds_ev (l : List S25) (s : ByteArray) (g : Bool) : Ev (fun k => abatislaw15_CspAdds.f k l s g) true := adds_l0 l s g (min 8 l.length) 0 (by omega)
end Go.Proofs.YthjhbhgfckaklaaDoor.P
