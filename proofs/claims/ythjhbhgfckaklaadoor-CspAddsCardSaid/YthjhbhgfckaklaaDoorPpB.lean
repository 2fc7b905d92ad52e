/-
  Plain laws, put together by mkpl.py.
-/
import Derived.Test.YthjhbhgfckaklaaDoorPpA
namespace Go.Proofs.YthjhbhgfckaklaaDoor.P
open Go.RowKit Go.Proofs.YthjhbhgfckaklaaDoorW.PrintWords Go.Proofs.YthjhbhgfckaklaaDoorW.PrintLast Go.Proofs.YthjhbhgfckaklaaDoorW.PrintMore
set_option linter.unusedVariables false
set_option linter.unusedSimpArgs false

theorem refLowerG_loop (s : ByteArray) (hs : s.size ≤ 140737488352000) (d : Nat) : ∀ i : Nat, i + d = s.size →
    Ev (fun k => abatisref01_Lower.l0 k s (((bytesOf s).take i).map lowB) (i : Int)) (lowS s) := by
  induction d with
  | zero =>
    intro i hi
    refine Ev.step (fun k => abatisref01_Lower.l0.eq_2 ..) (ev_neg (by omega) (ev_now ?_))
    rw [List.take_of_length_le (by rw [bytesOf_length]; omega)]
    rfl
  | succ d ih =>
    intro i hi
    have hr := bt_range s i
    have e : wrap64 ((i : Int) + 1) = ((i + 1 : Nat) : Int) := by unfold wrap64; omega
    have hl : (((bytesOf s).take i).map lowB).length < 140737488355328 := by
      rw [List.length_map, List.length_take, bytesOf_length]; omega
    have hn := ih (i + 1) (by omega)
    rw [bytesOf_take s i (by omega), List.map_append, List.map_cons, List.map_nil, lowB_cases _ hr.1 hr.2] at hn
    refine Ev.step (fun k => abatisref01_Lower.l0.eq_2 ..) (ev_pos (by omega) (ev_pos (by omega) ?_))
    rw [e]
    by_cases a : bt s i ≥ 65
    · by_cases b : bt s i ≤ 90
      · rw [if_pos a, if_pos b] at hn
        exact ev_pos a (ev_pos b (ev_pos hl hn))
      · rw [if_pos a, if_neg b] at hn
        exact ev_pos a (ev_neg b (ev_pos hl hn))
    · rw [if_neg a] at hn
      exact ev_neg a (ev_pos hl hn)
theorem refLowerG_ev (s : ByteArray) (hs : s.size ≤ 140737488352000) : Ev (fun k => abatisref01_Lower.f k s) (lowS s) := refLowerG_loop s hs s.size 0 (by omega)
def likeB (a b : ByteArray) : Bool := (lowS a).toList == (lowS b).toList
theorem refLikeG_ev (a b : ByteArray) (ha : a.size ≤ 140737488352000) (hb : b.size ≤ 140737488352000) : Ev (fun k => abatisref01_Like.f k a b) (likeB a b) :=
  Ev.bind (refLowerG_ev a ha) (Ev.bind (refLowerG_ev b hb) (Ev.now _))
theorem LikeG_eq (a b : ByteArray) (ha : a.size ≤ 140737488352000) (hb : b.size ≤ 140737488352000) : text_Like.f a b = some (likeB a b) := by
  have h : ∀ s : ByteArray, s.size ≤ 140737488352000 → text_Lower.f s = some (lowS s) := by
    intro s hs
    unfold text_Lower.f
    rw [if_pos (by omega)]
    rfl
  unfold text_Like.f
  rw [h a ha, h b hb]
  rfl
theorem likeB_iff (a b : ByteArray) : likeB a b = true ↔ lowS a = lowS b := by
  unfold likeB
  rw [beq_iff_eq]
  exact toList_inj
/-! ### where a name stands -/
def idxB (n : ByteArray) : List S79 → Nat → Int
  | [], _ => -1
  | d :: l, i => if likeB d.f0 n = true then (i : Int) else idxB n l (i + 1)
theorem idxFrom_eq (n : ByteArray) (hn : n.size ≤ 140737488352000) : ∀ (l : List S79) (i : Nat), (∀ d ∈ l, d.f0.size ≤ 1000000) → idxFrom n l (i : Int) = some (idxB n l i)
  | [], i, _ => rfl
  | d :: l, i, h => by
    unfold idxFrom idxB
    rw [LikeG_eq d.f0 n (Nat.le_trans (h d List.mem_cons_self) (by omega)) hn]
    show (if likeB d.f0 n = true then some (i : Int) else idxFrom n l ((i : Int) + 1)) = _
    by_cases c : likeB d.f0 n = true
    · rw [if_pos c, if_pos c]
    · rw [if_neg c, if_neg c]
      exact idxFrom_eq n hn l (i + 1) (fun x hx => h x (List.mem_cons_of_mem _ hx))
theorem idxB_range (n : ByteArray) : ∀ (l : List S79) (i : Nat), idxB n l i = -1 ∨ ((i : Int) ≤ idxB n l i ∧ idxB n l i < (i : Int) + l.length)
  | [], i => .inl rfl
  | d :: l, i => by
    unfold idxB
    split
    · exact .inr ⟨Int.le_refl _, by rw [List.length_cons]; omega⟩
    · rcases idxB_range n l (i + 1) with h | h
      · exact .inl h
      · exact .inr ⟨by omega, by rw [List.length_cons]; omega⟩
/-- All names are small already. -/
def LowNames (l : List S79) : Prop := ∀ d ∈ l, lowS d.f0 = d.f0
theorem idxB_mem (n : ByteArray) : ∀ (l : List S79) (i : Nat), LowNames l → (idxB n l i < 0 ↔ memB (lowS n) (dNames l) = false)
  | [], i, _ => by
    constructor
    · intro _; rfl
    · intro _; show (-1 : Int) < 0; omega
  | d :: l, i, h => by
    have hd := h d List.mem_cons_self
    have ih := idxB_mem n l (i + 1) (fun x hx => h x (List.mem_cons_of_mem _ hx))
    have hm : memB (lowS n) (dNames (d :: l)) = false ↔ ¬ (likeB d.f0 n = true) ∧ memB (lowS n) (dNames l) = false := by
      rw [memB_not, memB_not, likeB_iff, hd]
      unfold dNames
      rw [List.map_cons, List.mem_cons, not_or]
      constructor
      · rintro ⟨h1, h2⟩; exact ⟨fun e => h1 e.symm, h2⟩
      · rintro ⟨h1, h2⟩; exact ⟨fun e => h1 e.symm, h2⟩
    rw [hm]
    unfold idxB
    by_cases c : likeB d.f0 n = true
    · rw [if_pos c]
      constructor
      · intro hlt; omega
      · rintro ⟨h1, _⟩; exact absurd c h1
    · rw [if_neg c, ih]
      exact ⟨fun h => ⟨c, h⟩, fun h => h.2⟩
theorem rd57_at (l : List S79) (i : Nat) (h : i < l.length) : rd_T77 (asB l) (i : Int) = ⟨l[i].f0, l[i].f1⟩ := by
  unfold rd_T77 asB
  rw [Int.toNat_natCast, List.getD_eq_getElem?_getD, List.getElem?_map, List.getElem?_eq_getElem h]
  rfl
theorem rd56_at (l : List S79) (i : Nat) (h : i < l.length) : rd_T79 l (i : Int) = l[i] := by
  unfold rd_T79
  rw [Int.toNat_natCast, List.getD_eq_getElem?_getD, List.getElem?_eq_getElem h]
  rfl
theorem asB_length (l : List S79) : (asB l).length = l.length := by unfold asB; rw [List.length_map]
theorem refFind_loop (n : ByteArray) (hn : n.size ≤ 140737488352000) (l : List S79) (hl : l.length ≤ 100000) (hz : ∀ d ∈ l, d.f0.size ≤ 1000000) (d : Nat) : ∀ i : Nat, i + d = l.length →
    Ev (fun k => abatisref15_find.l0 k (asB l) n (i : Int)) (idxB n (l.drop i) i) := by
  induction d with
  | zero =>
    intro i hi
    rw [List.drop_of_length_le (by omega)]
    exact Ev.step (fun k => abatisref15_find.l0.eq_2 ..) (ev_neg (by rw [asB_length]; omega) (ev_now rfl))
  | succ d ih =>
    intro i hi
    have hlt : i < l.length := by omega
    have e : wrap64 ((i : Int) + 1) = ((i + 1 : Nat) : Int) := by unfold wrap64; omega
    rw [List.drop_eq_getElem_cons hlt]
    unfold idxB
    refine Ev.step (fun k => abatisref15_find.l0.eq_2 ..) (ev_pos (by rw [asB_length]; omega) (ev_pos (by omega) ?_))
    rw [rd57_at l i hlt, e]
    refine Ev.bind (refLikeG_ev l[i].f0 n (Nat.le_trans (hz _ (List.getElem_mem hlt)) (by omega)) hn) ?_
    by_cases c : likeB l[i].f0 n = true
    · rw [if_pos c]
      exact ev_pos c (ev_now rfl)
    · rw [if_neg c]
      exact ev_neg c (ih (i + 1) (by omega))
theorem refFind_ev (n : ByteArray) (hn : n.size ≤ 140737488352000) (l : List S79) (hl : l.length ≤ 100000) (hz : ∀ d ∈ l, d.f0.size ≤ 1000000) : Ev (fun k => abatisref15_find.f k (asB l) n) (idxB n l 0) :=
  refFind_loop n hn l hl hz l.length 0 (by omega)
/-! ### the document's directives -/
theorem pStep_low (out : List S79) (p : ByteArray) (hp : p.size ≤ 1000) (h : LowNames out ∧ ∀ d ∈ out, d.f0.size ≤ 1000000) : LowNames (pStep out p) ∧ ∀ d ∈ pStep out p, d.f0.size ≤ 1000000 := by
  have hw := words_size p
  unfold pStep
  split
  · exact h
  · rename_i a t he
    split
    · exact h
    · have ha : a.size ≤ p.size := hw a (by rw [he]; exact List.mem_cons_self)
      refine ⟨fun d hd => ?_, fun d hd => ?_⟩
      · rcases List.mem_append.1 hd with hd | hd
        · exact h.1 d hd
        · rw [List.mem_singleton.1 hd]; exact lowS_twice a
      · rcases List.mem_append.1 hd with hd | hd
        · exact h.2 d hd
        · rw [List.mem_singleton.1 hd]
          show (lowS a).size ≤ _
          rw [size_lowS]; omega
theorem low_nil : LowNames [] ∧ ∀ d ∈ ([] : List S79), d.f0.size ≤ 1000000 := ⟨fun d h => (List.not_mem_nil h).elim, fun d h => (List.not_mem_nil h).elim⟩
theorem fold_low (P : List ByteArray) (hP : ∀ p ∈ P, p.size ≤ 1000) : ∀ out : List S79, (LowNames out ∧ ∀ d ∈ out, d.f0.size ≤ 1000000) → LowNames (P.foldl pStep out) ∧ ∀ d ∈ P.foldl pStep out, d.f0.size ≤ 1000000 := by
  induction P with
  | nil => intro out h; exact h
  | cons q P ih =>
    intro out h
    rw [List.foldl_cons]
    exact ih (fun p hp => hP p (List.mem_cons_of_mem _ hp)) _ (pStep_low out q (hP q List.mem_cons_self) h)
theorem parse_low (s : ByteArray) (hs : s.size ≤ 1000) : LowNames (parseB s) ∧ ∀ d ∈ parseB s, d.f0.size ≤ 1000000 :=
  fold_low _ (fun p hp => Nat.le_trans (pieces_size s 59 p hp) hs) [] low_nil
theorem refParse_loop (P : List ByteArray) (hP : ∀ p ∈ P, p.size ≤ 1000) (hl : P.length ≤ 10000) (d : Nat) : ∀ (i : Nat) (out : List S79), i + d = P.length → out.length ≤ i → (LowNames out ∧ ∀ d ∈ out, d.f0.size ≤ 1000000) →
    Ev (fun k => abatisref15_Parse.l0 k (asB out) P (i : Int)) (asB ((P.drop i).foldl pStep out)) := by
  induction d with
  | zero =>
    intro i out hi ho hlow
    rw [List.drop_of_length_le (by omega)]
    exact Ev.step (fun k => abatisref15_Parse.l0.eq_2 ..) (ev_neg (by omega) (ev_now rfl))
  | succ d ih =>
    intro i out hi ho hlow
    have hlt : i < P.length := by omega
    have e : wrap64 ((i : Int) + 1) = ((i + 1 : Nat) : Int) := by unfold wrap64; omega
    have hps := hP P[i] (List.getElem_mem hlt)
    have hws := words_size P[i]
    have hnext := pStep_low out P[i] hps hlow
    rw [List.drop_eq_getElem_cons hlt, List.foldl_cons]
    refine Ev.step (fun k => abatisref15_Parse.l0.eq_2 ..) (ev_pos (by omega) (ev_pos (by omega) ?_))
    rw [rdOf_at P i hlt, e]
    refine Ev.bind (refWords_ev _ hps) ?_
    cases hw : wordsOf P[i] with
    | nil =>
      have hst : pStep out P[i] = out := by unfold pStep; rw [hw]
      rw [hst]
      exact ev_neg (by simp) (ih (i + 1) out (by omega) (by omega) hlow)
    | cons h t =>
      have hh : h.size ≤ 1000 := Nat.le_trans (hws h (by rw [hw]; exact List.mem_cons_self)) hps
      have hr : rdOf ByteArray.empty (h :: t) 0 = h := rfl
      refine ev_pos (by rw [List.length_cons]; omega) (ev_pos (by rw [List.length_cons]; omega) ?_)
      rw [hr]
      refine Ev.bind (refFind_ev h (by omega) out (by omega) hlow.2) ?_
      by_cases hm : memB (lowS h) (dNames out) = true
      · have hst : pStep out P[i] = out := by unfold pStep; rw [hw]; exact if_pos hm
        rw [hst]
        refine ev_neg (fun hneg => ?_) (ih (i + 1) out (by omega) (by omega) hlow)
        rw [(idxB_mem h out 0 hlow.1).1 hneg] at hm
        cases hm
      · have hst : pStep out P[i] = out ++ [⟨lowS h, t⟩] := by unfold pStep; rw [hw]; exact if_neg hm
        rw [hst] at hnext ⊢
        have hneg : idxB h out 0 < 0 := (idxB_mem h out 0 hlow.1).2 (by simpa using hm)
        refine ev_pos hneg (Ev.bind (refLower_ev h hh) (ev_pos (by rw [List.length_cons]; omega) (ev_pos (by rw [asB_length]; omega) ?_)))
        have hn := ih (i + 1) (out ++ [⟨lowS h, t⟩]) (by omega) (by rw [List.length_append, List.length_cons, List.length_nil]; omega) hnext
        have has : asB (out ++ [⟨lowS h, t⟩]) = asB out ++ [(⟨lowS h, t⟩ : S77)] := by unfold asB; rw [List.map_append]; rfl
        rw [has] at hn
        exact hn
theorem refParse_ev (s : ByteArray) (hs : s.size ≤ 1000) : Ev (fun k => abatisref15_Parse.f k s) (asB (parseB s)) := by
  unfold abatisref15_Parse.f
  refine Ev.bind (refSplit_ev s 59 hs) ?_
  have hl := pieces_length s 59
  exact refParse_loop (pieces s 59) (fun p hp => Nat.le_trans (pieces_size s 59 p hp) hs) (by omega) (pieces s 59).length 0 [] (by omega) (by simp) low_nil
/-- What a name's values are. -/
def findB (l : List S79) (n : ByteArray) : List ByteArray × Bool :=
  if idxB n l 0 < 0 then ([], false) else ((rd_T79 l (idxB n l 0)).f1, true)
theorem Find_eq (l : List S79) (n : ByteArray) (hn : n.size ≤ 140737488352000) (hz : ∀ d ∈ l, d.f0.size ≤ 1000000) (hv : ∀ d ∈ l, d.f1.length ≤ 100000) : csp_Find.f l n = some (findB l n) := by
  unfold csp_Find.f findB
  have h := idxFrom_eq n hn l 0 hz
  rw [show ((0 : Nat) : Int) = 0 from rfl] at h
  rw [h]
  show (if idxB n l 0 < 0 then _ else _) = _
  rcases idxB_range n l 0 with h1 | ⟨h1, h2⟩
  · rw [if_pos (by omega), if_pos (by omega)]
  · have hnn : ¬ idxB n l 0 < 0 := by omega
    rw [if_neg hnn, if_neg hnn, if_pos (by omega)]
    obtain ⟨m, hm⟩ := Int.eq_ofNat_of_zero_le (show 0 ≤ idxB n l 0 by omega)
    have hml : m < l.length := by omega
    rw [hm]
    have e : rd_T79 l (Int.ofNat m) = l[m] := rd56_at l m hml
    rw [show ((m : Nat) : Int) = Int.ofNat m from rfl, e, if_pos (Nat.le_trans (hv _ (List.getElem_mem hml)) (by omega))]
theorem findB_small (l : List S79) (n : ByteArray) (hv : ∀ d ∈ l, d.f1.length ≤ 100000) : (findB l n).1.length ≤ 100000 := by
  unfold findB
  split
  · simp
  · rename_i hnn
    rcases idxB_range n l 0 with h1 | ⟨h1, h2⟩
    · omega
    · obtain ⟨m, hm⟩ := Int.eq_ofNat_of_zero_le (show 0 ≤ idxB n l 0 by omega)
      have hml : m < l.length := by omega
      show (rd_T79 l (idxB n l 0)).f1.length ≤ _
      rw [hm]
      have e1 : rd_T79 l ((m : Nat) : Int) = l[m] := rd56_at l m hml
      rw [e1]
      exact hv _ (List.getElem_mem hml)
/-! ### pieces, and what they are together -/
def jStep (sep : ByteArray) : Option ByteArray → ByteArray → Option ByteArray
  | none, a => some a
  | some x, a => some (x ++ sep ++ a)
def jOpt (sep : ByteArray) (l : List ByteArray) : Option ByteArray := l.foldl (jStep sep) none
/-- The pieces with sep between. -/
def joinB (sep : ByteArray) (l : List ByteArray) : ByteArray := (jOpt sep l).getD ByteArray.empty
theorem jOpt_snoc (sep : ByteArray) (l : List ByteArray) (a : ByteArray) : jOpt sep (l ++ [a]) = jStep sep (jOpt sep l) a := by
  unfold jOpt; rw [List.foldl_append]; rfl
theorem joinB_split (sep : ByteArray) (l : List ByteArray) (a b : ByteArray) : jOpt sep (l ++ [a] ++ [b]) = jOpt sep (l ++ [a ++ sep ++ b]) := by
  rw [jOpt_snoc, jOpt_snoc, jOpt_snoc]
  cases jOpt sep l with
  | none => rfl
  | some x => simp only [jStep, ByteArray.append_assoc]
theorem empty_appendE (a : ByteArray) : ByteArray.empty ++ a = a := by apply ByteArray.ext; simp
/-! ### the document's Join -/
def jSize (sep : ByteArray) (l : List ByteArray) : Nat := (joinB sep l).size
theorem jSize_snoc (sep : ByteArray) (l : List ByteArray) (a : ByteArray) : jSize sep l ≤ jSize sep (l ++ [a]) := by
  unfold jSize joinB
  rw [jOpt_snoc]
  cases jOpt sep l with
  | none => simp [jStep]
  | some x => simp only [jStep, Option.getD_some, ByteArray.size_append]; omega
theorem jSize_le (sep : ByteArray) (l r : List ByteArray) : jSize sep l ≤ jSize sep (l ++ r) := by
  induction r generalizing l with
  | nil => rw [List.append_nil]; omega
  | cons a r ih =>
    have h1 := jSize_snoc sep l a
    have h2 := ih (l ++ [a])
    rw [List.append_assoc, List.singleton_append] at h2
    omega
theorem jOpt_some (sep : ByteArray) (l : List ByteArray) (h : l ≠ []) : jOpt sep l = some (joinB sep l) := by
  obtain ⟨m, a, rfl⟩ : ∃ m a, l = m ++ [a] := ⟨l.dropLast, l.getLast h, (List.dropLast_concat_getLast h).symm⟩
  unfold joinB
  rw [jOpt_snoc]
  cases jOpt sep m <;> rfl
theorem take_snoc (l : List ByteArray) (i : Nat) (h : i < l.length) : l.take (i + 1) = l.take i ++ [rdOf ByteArray.empty l (i : Int)] := by
  rw [List.take_add_one, List.getElem?_eq_getElem h]
  unfold rdOf
  rw [Int.toNat_natCast, List.getD_eq_getElem?_getD, List.getElem?_eq_getElem h]
  rfl
theorem join_loop (l : List ByteArray) (sep : ByteArray) (hl : l.length ≤ 100000) (hz : jSize sep l ≤ 1000000) (d : Nat) : ∀ i : Nat, i + d = l.length →
    Ev (fun k => abatisref01_Join.l0 k l sep (joinB sep (l.take i)) (i : Int)) (joinB sep l) := by
  induction d with
  | zero =>
    intro i hi
    rw [List.take_of_length_le (by omega)]
    exact Ev.step (fun k => abatisref01_Join.l0.eq_2 ..) (ev_neg (by omega) (ev_now rfl))
  | succ d ih =>
    intro i hi
    have e : wrap64 ((i : Int) + 1) = ((i + 1 : Nat) : Int) := by unfold wrap64; omega
    have hn := ih (i + 1) (by omega)
    have hle := jSize_le sep (l.take (i + 1)) (l.drop (i + 1))
    rw [List.take_append_drop] at hle
    have hsz : (joinB sep (l.take (i + 1))).size ≤ 1000000 := Nat.le_trans hle hz
    rw [take_snoc l i (by omega)] at hn hsz
    refine Ev.step (fun k => abatisref01_Join.l0.eq_2 ..) (ev_pos (by omega) ?_)
    rw [e]
    cases i with
    | zero =>
      have e0 : joinB sep (l.take 0 ++ [rdOf ByteArray.empty l ((0 : Nat) : Int)]) = rdOf ByteArray.empty l ((0 : Nat) : Int) := rfl
      have e1 : joinB sep (l.take 0) = ByteArray.empty := rfl
      rw [e0] at hn hsz
      rw [e1, empty_appendE]
      refine ev_neg (by omega) (ev_pos (by omega) (ev_pos ?_ hn))
      have : ByteArray.empty.size = 0 := rfl
      omega
    | succ j =>
      have hne : l.take (j + 1) ≠ [] := by
        intro h
        have := congrArg List.length h
        rw [List.length_take, List.length_nil] at this
        omega
      have e0 : joinB sep (l.take (j + 1) ++ [rdOf ByteArray.empty l ((j + 1 : Nat) : Int)]) = joinB sep (l.take (j + 1)) ++ sep ++ rdOf ByteArray.empty l ((j + 1 : Nat) : Int) := by
        conv => lhs; unfold joinB
        rw [jOpt_snoc, jOpt_some sep _ hne]
        rfl
      rw [e0] at hn hsz
      rw [ByteArray.size_append, ByteArray.size_append] at hsz
      refine ev_pos (by omega) (ev_pos (by omega) (ev_pos (by omega) (ev_pos ?_ hn)))
      rw [ByteArray.size_append]
      omega
theorem join_ev (l : List ByteArray) (sep : ByteArray) (hl : l.length ≤ 100000) (hz : jSize sep l ≤ 1000000) : Ev (fun k => abatisref01_Join.f k l sep) (joinB sep l) :=
  join_loop l sep hl hz l.length 0 (by omega)
/-! ### blanks -/
def blank8 (b : UInt8) : Bool := [32, 9].contains b
theorem blank_eq (s : ByteArray) (i : Nat) (h : i < s.size) : abatisref01_blank.f (bt s i) = some (blank8 (s[i]'h)) := by
  rw [bt_get s i h]
  generalize s[i]'h = b
  revert b
  have : ∀ b : Fin 256, abatisref01_blank.f (((UInt8.ofNat b.val).toNat : Nat) : Int) = some (blank8 (UInt8.ofNat b.val)) := by decide +kernel
  intro b
  have hb := this ⟨b.toNat, b.toNat_lt⟩
  simp only [UInt8.ofNat_toNat] at hb
  exact hb
theorem at_data (s : ByteArray) (i : Nat) (h : i < s.size) : s.data.toList[i]? = some (s[i]'h) := by
  have hl : i < s.data.toList.length := by rw [data_length]; exact h
  rw [List.getElem?_eq_getElem hl, Array.getElem_toList]
  rfl
/-- The document's end: from k down. -/
theorem trim_down (s : ByteArray) (hs : s.size ≤ 1000) (i : Nat) (hi : i ≤ s.size) : ∀ k : Nat, i ≤ k → k ≤ s.size → (∀ (j : Nat) b, k ≤ j → s.data.toList[j]? = some b → blank8 b = true) →
    ∃ z, i ≤ z ∧ z ≤ s.size ∧ Ev (fun q => abatisref01_Trim.l1 q s (i : Int) (k : Int)) (s.extract i z) ∧ (∀ (j : Nat) b, z ≤ j → s.data.toList[j]? = some b → blank8 b = true) ∧
      (z = i ∨ ∀ b, s.data.toList[z - 1]? = some b → blank8 b = false) := by
  intro k
  induction k with
  | zero =>
    intro h1 h2 h3
    obtain rfl : i = 0 := by omega
    refine ⟨0, by omega, by omega, ?_, h3, .inl rfl⟩
    exact Ev.step (fun k => abatisref01_Trim.l1.eq_2 ..) (ev_neg (by omega) (ev_pos (by omega) (ev_pos (by omega) (ev_pos (by omega) (ev_now rfl)))))
  | succ k ih =>
    intro h1 h2 h3
    by_cases hk : i = k + 1
    · refine ⟨k + 1, by omega, by omega, ?_, h3, .inl hk.symm⟩
      refine Ev.step (fun k => abatisref01_Trim.l1.eq_2 ..) (ev_neg (by omega) (ev_pos (by omega) (ev_pos (by omega) (ev_pos (by omega) (ev_now ?_)))))
      rw [Int.toNat_natCast, Int.toNat_natCast]
    · have e : wrap64 (((k + 1 : Nat) : Int) - 1) = (k : Int) := by unfold wrap64; omega
      have hlt : k < s.size := by omega
      have hb := blank_eq s k hlt
      have hat := at_data s k hlt
      cases hbl : blank8 (s[k]'hlt) with
      | true =>
        rw [hbl] at hb
        obtain ⟨z, z1, z2, z3, z4, z5⟩ := ih (by omega) (by omega) (fun j b hj hjb => by
          by_cases hjk : j = k
          · subst hjk
            rw [hat] at hjb
            rw [← Option.some.inj hjb]
            exact hbl
          · exact h3 j b (by omega) hjb)
        refine ⟨z, z1, z2, ?_, z4, z5⟩
        refine Ev.step (fun k => abatisref01_Trim.l1.eq_2 ..) (ev_pos (by omega) ?_)
        rw [e]
        exact ev_pos (by omega) (ev_pos (by omega) (ev_get hb (ev_pos rfl z3)))
      | false =>
        rw [hbl] at hb
        refine ⟨k + 1, by omega, by omega, ?_, h3, .inr (fun b hb2 => ?_)⟩
        · refine Ev.step (fun k => abatisref01_Trim.l1.eq_2 ..) (ev_pos (by omega) ?_)
          rw [e]
          refine ev_pos (by omega) (ev_pos (by omega) (ev_get hb (ev_neg (by decide) (ev_pos (by omega) (ev_pos (by omega) (ev_pos (by omega) (ev_now ?_)))))))
          rw [Int.toNat_natCast, Int.toNat_natCast]
        · rw [Nat.add_sub_cancel, hat] at hb2
          rw [← Option.some.inj hb2]
          exact hbl
theorem trim_up (s : ByteArray) (hs : s.size ≤ 1000) (d : Nat) : ∀ i : Nat, i + d = s.size → (∀ (j : Nat) b, j < i → s.data.toList[j]? = some b → blank8 b = true) →
    ∃ y z, y ≤ z ∧ z ≤ s.size ∧ Ev (fun q => abatisref01_Trim.l0 q s (i : Int)) (s.extract y z) ∧ (∀ (j : Nat) b, j < y → s.data.toList[j]? = some b → blank8 b = true) ∧
      (y = s.size ∨ ∀ b, s.data.toList[y]? = some b → blank8 b = false) ∧
      (∀ (j : Nat) b, z ≤ j → s.data.toList[j]? = some b → blank8 b = true) ∧ (z = y ∨ ∀ b, s.data.toList[z - 1]? = some b → blank8 b = false) := by
  have out : ∀ (j : Nat) b, s.size ≤ j → s.data.toList[j]? = some b → blank8 b = true := by
    intro j b hj hb
    rw [List.getElem?_eq_none (by rw [data_length]; exact hj)] at hb
    cases hb
  induction d with
  | zero =>
    intro i hi hb
    obtain rfl : i = s.size := by omega
    obtain ⟨z, z1, z2, z3, z4, z5⟩ := trim_down s hs s.size (Nat.le_refl _) s.size (Nat.le_refl _) (Nat.le_refl _) out
    exact ⟨s.size, z, z1, z2, Ev.step (fun k => abatisref01_Trim.l0.eq_2 ..) (ev_neg (by omega) (Ev.step (fun k => abatisref01_Trim.j1.eq_2 ..) z3)), hb, .inl rfl, z4, z5⟩
  | succ d ih =>
    intro i hi hb
    have hlt : i < s.size := by omega
    have e : wrap64 ((i : Int) + 1) = ((i + 1 : Nat) : Int) := by unfold wrap64; omega
    have hbe := blank_eq s i hlt
    have hat := at_data s i hlt
    cases hbl : blank8 (s[i]'hlt) with
    | true =>
      rw [hbl] at hbe
      obtain ⟨y, z, h1, h2, h3, h4⟩ := ih (i + 1) (by omega) (fun j b hj hjb => by
          by_cases hjk : j = i
          · subst hjk
            rw [hat] at hjb
            rw [← Option.some.inj hjb]
            exact hbl
          · exact hb j b (by omega) hjb)
      refine ⟨y, z, h1, h2, ?_, h4⟩
      refine Ev.step (fun k => abatisref01_Trim.l0.eq_2 ..) (ev_pos (by omega) (ev_pos (by omega) (ev_get hbe (ev_pos rfl ?_))))
      rw [e]
      exact h3
    | false =>
      rw [hbl] at hbe
      obtain ⟨z, z1, z2, z3, z4, z5⟩ := trim_down s hs i (by omega) s.size (by omega) (Nat.le_refl _) out
      refine ⟨i, z, z1, z2, ?_, hb, .inr (fun b hb2 => ?_), z4, z5⟩
      · exact Ev.step (fun k => abatisref01_Trim.l0.eq_2 ..) (ev_pos (by omega) (ev_pos (by omega) (ev_get hbe (ev_neg (by decide) (Ev.step (fun k => abatisref01_Trim.j1.eq_2 ..) z3)))))
      · rw [hat] at hb2
        rw [← Option.some.inj hb2]
        exact hbl
/-- A list without blanks at its ends, if it is not empty. -/
def Bare (l : List UInt8) : Prop := (∀ b, l[0]? = some b → blank8 b = false) ∧ ∀ b, 0 < l.length → l[l.length - 1]? = some b → blank8 b = false
theorem trim_bare (l : List UInt8) (h : Bare l) : Lib.trimS l [32, 9] = l := by
  unfold Lib.trimS
  rw [Lib.trimRightS_take l [32, 9] l.length (Nat.le_refl _) (fun j b hj hb => by rw [List.getElem?_eq_none hj] at hb; cases hb) (fun b h0 hb => h.2 b h0 hb), List.take_length]
  rw [Lib.trimLeftS_drop l [32, 9] 0 (Nat.zero_le _) (fun j b hj => by omega) (fun b hb => h.1 b hb), List.drop_zero]
theorem trim_all (s : ByteArray) (hs : s.size ≤ 1000) : ∃ t : ByteArray, t.size ≤ s.size ∧ Ev (fun q => abatisref01_Trim.f q s) t ∧ (⟨(Lib.trimS s.data.toList [32, 9]).toArray⟩ : ByteArray) = t ∧ Bare t.data.toList := by
  obtain ⟨y, z, h1, h2, h3, h4, h5, h6, h7⟩ := trim_up s hs s.size 0 (by omega) (fun j b hj => by omega)
  refine ⟨s.extract y z, by rw [ByteArray.size_extract]; omega, h3, ?_⟩
  have hl := data_length s
  have hx : (s.extract y z).data.toList = (s.data.toList.take z).drop y := by
    rw [ByteArray.data_extract, Array.toList_extract, List.extract_eq_take_drop, List.take_drop]
    rw [show y + (z - y) = z from by omega]
  have key : Lib.trimS s.data.toList [32, 9] = (s.data.toList.take z).drop y ∧ Bare ((s.data.toList.take z).drop y) := by
    by_cases hyz : y = z
    · have he : (s.data.toList.take z).drop y = [] := by rw [List.drop_eq_nil_of_le]; rw [List.length_take]; omega
      have hys : y = s.size := by
        rcases h5 with h | h
        · exact h
        · by_cases hlt : y < s.size
          · have a1 := h _ (at_data s y hlt)
            have a2 := h6 y _ (by omega) (at_data s y hlt)
            rw [a1] at a2
            cases a2
          · omega
      have hall : Lib.trimRightS s.data.toList [32, 9] = [] := by
        rw [Lib.trimRightS_take _ [32, 9] 0 (Nat.zero_le _) (fun j b _ hb => ?_) (fun b h0 => by omega), List.take_zero]
        by_cases hj : j < y
        · exact h4 j b hj hb
        · rw [List.getElem?_eq_none (by omega)] at hb; cases hb
      rw [he]
      unfold Lib.trimS
      rw [hall]
      exact ⟨rfl, fun b hb => by simp at hb, fun b h0 => by simp at h0⟩
    · have h5' : ∀ b, s.data.toList[y]? = some b → blank8 b = false := by
        rcases h5 with h | h
        · omega
        · exact h
      have h7' : ∀ b, s.data.toList[z - 1]? = some b → blank8 b = false := by
        rcases h7 with h | h
        · exact absurd h.symm hyz
        · exact h
      have htk : ∀ j : Nat, j < z → (s.data.toList.take z)[j]? = s.data.toList[j]? := fun j hj => List.getElem?_take_of_lt hj
      constructor
      · unfold Lib.trimS
        rw [Lib.trimRightS_take _ [32, 9] z (by omega) h6 (fun b _ hb => h7' b hb)]
        rw [Lib.trimLeftS_drop _ [32, 9] y (by rw [List.length_take]; omega) (fun j b hj hb => h4 j b hj (by rw [htk j (by omega)] at hb; exact hb)) (fun b hb => h5' b (by rw [htk y (by omega)] at hb; exact hb))]
      · refine ⟨fun b hb => ?_, fun b h0 hb => ?_⟩
        · rw [List.getElem?_drop, Nat.add_zero, htk y (by omega)] at hb
          exact h5' b hb
        · rw [List.length_drop, List.length_take, List.getElem?_drop, htk _ (by omega)] at hb
          rw [show y + (min z s.data.toList.length - y - 1) = z - 1 from by omega] at hb
          exact h7' b hb
  rw [hx]
  refine ⟨?_, key.2⟩
  apply ByteArray.ext
  apply Array.ext'
  rw [hx, ← key.1]
theorem Trim_eq (s : ByteArray) (hs : s.size ≤ 1000) : text_Trim.f s = some (⟨(Lib.trimS s.data.toList [32, 9]).toArray⟩ : ByteArray) := by
  unfold text_Trim.f
  rw [if_pos (by omega)]
end Go.Proofs.YthjhbhgfckaklaaDoor.P
