/-
  Plain laws on the document's directives; CspParse.
-/
import Derived.Test.YtcpeecacoblbhaaPlK
import Derived.Test.YtcpeecacoblbhaaCspF
import Derived.Test.YtcpeecacoblbhaaPCB1
import Derived.Test.YtcpeecacoblbhaaPLC21
namespace Go.Proofs.Ytcpeecacoblbhaa.P
open Go.RowKit Go.Proofs.YtcpeecacoblbhaaW.PrintWords Go.Proofs.YtcpeecacoblbhaaW.PrintLast Go.Proofs.YtcpeecacoblbhaaW.PrintMore
set_option linter.unusedVariables false
set_option linter.unusedSimpArgs false

theorem refLowerG_loop (s : ByteArray) (hs : s.size ≤ 140737488352000) (d : Nat) : ∀ i : Nat, i + d = s.size →
    Ev (fun k => abatisref01_Lower.l0 k s (((bytesOf s).take i).map lowB) (i : Int)) (lowS s) := by
  induction d with
  | zero =>
    intro i hi
    refine Ev.step (fun k => abatisref01_Lower.l0.eq_2 ..) (ev_neg (by omega) (ev_now ?_))
    rw [List.take_of_length_le (by rw [bytesOf_length]; omega)]
    rfl
  | succ d ih =>
    intro i hi
    have hr := bt_range s i
    have e : wrap64 ((i : Int) + 1) = ((i + 1 : Nat) : Int) := by unfold wrap64; omega
    have hl : (((bytesOf s).take i).map lowB).length < 140737488355328 := by
      rw [List.length_map, List.length_take, bytesOf_length]; omega
    have hn := ih (i + 1) (by omega)
    rw [bytesOf_take s i (by omega), List.map_append, List.map_cons, List.map_nil, lowB_cases _ hr.1 hr.2] at hn
    refine Ev.step (fun k => abatisref01_Lower.l0.eq_2 ..) (ev_pos (by omega) (ev_pos (by omega) ?_))
    rw [e]
    by_cases a : bt s i ≥ 65
    · by_cases b : bt s i ≤ 90
      · rw [if_pos a, if_pos b] at hn
        exact ev_pos a (ev_pos b (ev_pos hl hn))
      · rw [if_pos a, if_neg b] at hn
        exact ev_pos a (ev_neg b (ev_pos hl hn))
    · rw [if_neg a] at hn
      exact ev_neg a (ev_pos hl hn)
theorem refLowerG_ev (s : ByteArray) (hs : s.size ≤ 140737488352000) : Ev (fun k => abatisref01_Lower.f k s) (lowS s) := refLowerG_loop s hs s.size 0 (by omega)
def likeB (a b : ByteArray) : Bool := (lowS a).toList == (lowS b).toList
theorem refLikeG_ev (a b : ByteArray) (ha : a.size ≤ 140737488352000) (hb : b.size ≤ 140737488352000) : Ev (fun k => abatisref01_Like.f k a b) (likeB a b) :=
  Ev.bind (refLowerG_ev a ha) (Ev.bind (refLowerG_ev b hb) (Ev.now _))
theorem LikeG_eq (a b : ByteArray) (ha : a.size ≤ 140737488352000) (hb : b.size ≤ 140737488352000) : text_Like.f a b = some (likeB a b) := by
  have h : ∀ s : ByteArray, s.size ≤ 140737488352000 → text_Lower.f s = some (lowS s) := by
    intro s hs
    unfold text_Lower.f
    rw [if_pos (by omega)]
    rfl
  unfold text_Like.f
  rw [h a ha, h b hb]
  rfl
theorem likeB_iff (a b : ByteArray) : likeB a b = true ↔ lowS a = lowS b := by
  unfold likeB
  rw [beq_iff_eq]
  exact toList_inj

/-! ### where a name stands -/
def idxB (n : ByteArray) : List S56 → Nat → Int
  | [], _ => -1
  | d :: l, i => if likeB d.f0 n = true then (i : Int) else idxB n l (i + 1)
theorem idxFrom_eq (n : ByteArray) (hn : n.size ≤ 140737488352000) : ∀ (l : List S56) (i : Nat), (∀ d ∈ l, d.f0.size ≤ 1000000) → idxFrom n l (i : Int) = some (idxB n l i)
  | [], i, _ => rfl
  | d :: l, i, h => by
    unfold idxFrom idxB
    rw [LikeG_eq d.f0 n (Nat.le_trans (h d List.mem_cons_self) (by omega)) hn]
    show (if likeB d.f0 n = true then some (i : Int) else idxFrom n l ((i : Int) + 1)) = _
    by_cases c : likeB d.f0 n = true
    · rw [if_pos c, if_pos c]
    · rw [if_neg c, if_neg c]
      exact idxFrom_eq n hn l (i + 1) (fun x hx => h x (List.mem_cons_of_mem _ hx))
theorem idxB_range (n : ByteArray) : ∀ (l : List S56) (i : Nat), idxB n l i = -1 ∨ ((i : Int) ≤ idxB n l i ∧ idxB n l i < (i : Int) + l.length)
  | [], i => .inl rfl
  | d :: l, i => by
    unfold idxB
    split
    · exact .inr ⟨Int.le_refl _, by rw [List.length_cons]; omega⟩
    · rcases idxB_range n l (i + 1) with h | h
      · exact .inl h
      · exact .inr ⟨by omega, by rw [List.length_cons]; omega⟩
/-- All names are small already. -/
def LowNames (l : List S56) : Prop := ∀ d ∈ l, lowS d.f0 = d.f0
theorem idxB_mem (n : ByteArray) : ∀ (l : List S56) (i : Nat), LowNames l → (idxB n l i < 0 ↔ memB (lowS n) (dNames l) = false)
  | [], i, _ => by
    constructor
    · intro _; rfl
    · intro _; show (-1 : Int) < 0; omega
  | d :: l, i, h => by
    have hd := h d List.mem_cons_self
    have ih := idxB_mem n l (i + 1) (fun x hx => h x (List.mem_cons_of_mem _ hx))
    have hm : memB (lowS n) (dNames (d :: l)) = false ↔ ¬ (likeB d.f0 n = true) ∧ memB (lowS n) (dNames l) = false := by
      rw [memB_not, memB_not, likeB_iff, hd]
      unfold dNames
      rw [List.map_cons, List.mem_cons, not_or]
      constructor
      · rintro ⟨h1, h2⟩; exact ⟨fun e => h1 e.symm, h2⟩
      · rintro ⟨h1, h2⟩; exact ⟨fun e => h1 e.symm, h2⟩
    rw [hm]
    unfold idxB
    by_cases c : likeB d.f0 n = true
    · rw [if_pos c]
      constructor
      · intro hlt; omega
      · rintro ⟨h1, _⟩; exact absurd c h1
    · rw [if_neg c, ih]
      exact ⟨fun h => ⟨c, h⟩, fun h => h.2⟩
theorem rd57_at (l : List S56) (i : Nat) (h : i < l.length) : rd_T57 (asB l) (i : Int) = ⟨l[i].f0, l[i].f1⟩ := by
  unfold rd_T57 asB
  rw [Int.toNat_natCast, List.getD_eq_getElem?_getD, List.getElem?_map, List.getElem?_eq_getElem h]
  rfl
theorem rd56_at (l : List S56) (i : Nat) (h : i < l.length) : rd_T56 l (i : Int) = l[i] := by
  unfold rd_T56
  rw [Int.toNat_natCast, List.getD_eq_getElem?_getD, List.getElem?_eq_getElem h]
  rfl
theorem asB_length (l : List S56) : (asB l).length = l.length := by unfold asB; rw [List.length_map]
theorem refFind_loop (n : ByteArray) (hn : n.size ≤ 140737488352000) (l : List S56) (hl : l.length ≤ 100000) (hz : ∀ d ∈ l, d.f0.size ≤ 1000000) (d : Nat) : ∀ i : Nat, i + d = l.length →
    Ev (fun k => abatisref15_find.l0 k (asB l) n (i : Int)) (idxB n (l.drop i) i) := by
  induction d with
  | zero =>
    intro i hi
    rw [List.drop_of_length_le (by omega)]
    exact Ev.step (fun k => abatisref15_find.l0.eq_2 ..) (ev_neg (by rw [asB_length]; omega) (ev_now rfl))
  | succ d ih =>
    intro i hi
    have hlt : i < l.length := by omega
    have e : wrap64 ((i : Int) + 1) = ((i + 1 : Nat) : Int) := by unfold wrap64; omega
    rw [List.drop_eq_getElem_cons hlt]
    unfold idxB
    refine Ev.step (fun k => abatisref15_find.l0.eq_2 ..) (ev_pos (by rw [asB_length]; omega) (ev_pos (by omega) ?_))
    rw [rd57_at l i hlt, e]
    refine Ev.bind (refLikeG_ev l[i].f0 n (Nat.le_trans (hz _ (List.getElem_mem hlt)) (by omega)) hn) ?_
    by_cases c : likeB l[i].f0 n = true
    · rw [if_pos c]
      exact ev_pos c (ev_now rfl)
    · rw [if_neg c]
      exact ev_neg c (ih (i + 1) (by omega))
theorem refFind_ev (n : ByteArray) (hn : n.size ≤ 140737488352000) (l : List S56) (hl : l.length ≤ 100000) (hz : ∀ d ∈ l, d.f0.size ≤ 1000000) : Ev (fun k => abatisref15_find.f k (asB l) n) (idxB n l 0) :=
  refFind_loop n hn l hl hz l.length 0 (by omega)

/-! ### the document's directives -/
theorem pStep_low (out : List S56) (p : ByteArray) (hp : p.size ≤ 1000) (h : LowNames out ∧ ∀ d ∈ out, d.f0.size ≤ 1000000) : LowNames (pStep out p) ∧ ∀ d ∈ pStep out p, d.f0.size ≤ 1000000 := by
  have hw := words_size p
  unfold pStep
  split
  · exact h
  · rename_i a t he
    split
    · exact h
    · have ha : a.size ≤ p.size := hw a (by rw [he]; exact List.mem_cons_self)
      refine ⟨fun d hd => ?_, fun d hd => ?_⟩
      · rcases List.mem_append.1 hd with hd | hd
        · exact h.1 d hd
        · rw [List.mem_singleton.1 hd]; exact lowS_twice a
      · rcases List.mem_append.1 hd with hd | hd
        · exact h.2 d hd
        · rw [List.mem_singleton.1 hd]
          show (lowS a).size ≤ _
          rw [size_lowS]; omega
theorem low_nil : LowNames [] ∧ ∀ d ∈ ([] : List S56), d.f0.size ≤ 1000000 := ⟨fun d h => (List.not_mem_nil h).elim, fun d h => (List.not_mem_nil h).elim⟩
theorem fold_low (P : List ByteArray) (hP : ∀ p ∈ P, p.size ≤ 1000) : ∀ out : List S56, (LowNames out ∧ ∀ d ∈ out, d.f0.size ≤ 1000000) → LowNames (P.foldl pStep out) ∧ ∀ d ∈ P.foldl pStep out, d.f0.size ≤ 1000000 := by
  induction P with
  | nil => intro out h; exact h
  | cons q P ih =>
    intro out h
    rw [List.foldl_cons]
    exact ih (fun p hp => hP p (List.mem_cons_of_mem _ hp)) _ (pStep_low out q (hP q List.mem_cons_self) h)
theorem parse_low (s : ByteArray) (hs : s.size ≤ 1000) : LowNames (parseB s) ∧ ∀ d ∈ parseB s, d.f0.size ≤ 1000000 :=
  fold_low _ (fun p hp => Nat.le_trans (pieces_size s 59 p hp) hs) [] low_nil
theorem refParse_loop (P : List ByteArray) (hP : ∀ p ∈ P, p.size ≤ 1000) (hl : P.length ≤ 10000) (d : Nat) : ∀ (i : Nat) (out : List S56), i + d = P.length → out.length ≤ i → (LowNames out ∧ ∀ d ∈ out, d.f0.size ≤ 1000000) →
    Ev (fun k => abatisref15_Parse.l0 k (asB out) P (i : Int)) (asB ((P.drop i).foldl pStep out)) := by
  induction d with
  | zero =>
    intro i out hi ho hlow
    rw [List.drop_of_length_le (by omega)]
    exact Ev.step (fun k => abatisref15_Parse.l0.eq_2 ..) (ev_neg (by omega) (ev_now rfl))
  | succ d ih =>
    intro i out hi ho hlow
    have hlt : i < P.length := by omega
    have e : wrap64 ((i : Int) + 1) = ((i + 1 : Nat) : Int) := by unfold wrap64; omega
    have hps := hP P[i] (List.getElem_mem hlt)
    have hws := words_size P[i]
    have hnext := pStep_low out P[i] hps hlow
    rw [List.drop_eq_getElem_cons hlt, List.foldl_cons]
    refine Ev.step (fun k => abatisref15_Parse.l0.eq_2 ..) (ev_pos (by omega) (ev_pos (by omega) ?_))
    rw [rdOf_at P i hlt, e]
    refine Ev.bind (refWords_ev _ hps) ?_
    cases hw : wordsOf P[i] with
    | nil =>
      have hst : pStep out P[i] = out := by unfold pStep; rw [hw]
      rw [hst]
      exact ev_neg (by simp) (ih (i + 1) out (by omega) (by omega) hlow)
    | cons h t =>
      have hh : h.size ≤ 1000 := Nat.le_trans (hws h (by rw [hw]; exact List.mem_cons_self)) hps
      have hr : rdOf ByteArray.empty (h :: t) 0 = h := rfl
      refine ev_pos (by rw [List.length_cons]; omega) (ev_pos (by rw [List.length_cons]; omega) ?_)
      rw [hr]
      refine Ev.bind (refFind_ev h (by omega) out (by omega) hlow.2) ?_
      by_cases hm : memB (lowS h) (dNames out) = true
      · have hst : pStep out P[i] = out := by unfold pStep; rw [hw]; exact if_pos hm
        rw [hst]
        refine ev_neg (fun hneg => ?_) (ih (i + 1) out (by omega) (by omega) hlow)
        rw [(idxB_mem h out 0 hlow.1).1 hneg] at hm
        cases hm
      · have hst : pStep out P[i] = out ++ [⟨lowS h, t⟩] := by unfold pStep; rw [hw]; exact if_neg hm
        rw [hst] at hnext ⊢
        have hneg : idxB h out 0 < 0 := (idxB_mem h out 0 hlow.1).2 (by simpa using hm)
        refine ev_pos hneg (Ev.bind (refLower_ev h hh) (ev_pos (by rw [List.length_cons]; omega) (ev_pos (by rw [asB_length]; omega) ?_)))
        have hn := ih (i + 1) (out ++ [⟨lowS h, t⟩]) (by omega) (by rw [List.length_append, List.length_cons, List.length_nil]; omega) hnext
        have has : asB (out ++ [⟨lowS h, t⟩]) = asB out ++ [(⟨lowS h, t⟩ : S57)] := by unfold asB; rw [List.map_append]; rfl
        rw [has] at hn
        exact hn
theorem refParse_ev (s : ByteArray) (hs : s.size ≤ 1000) : Ev (fun k => abatisref15_Parse.f k s) (asB (parseB s)) := by
  unfold abatisref15_Parse.f
  refine Ev.bind (refSplit_ev s 59 hs) ?_
  have hl := pieces_length s 59
  exact refParse_loop (pieces s 59) (fun p hp => Nat.le_trans (pieces_size s 59 p hp) hs) (by omega) (pieces s 59).length 0 [] (by omega) (by simp) low_nil

/-- What a name's values are. -/
def findB (l : List S56) (n : ByteArray) : List ByteArray × Bool :=
  if idxB n l 0 < 0 then ([], false) else ((rd_T56 l (idxB n l 0)).f1, true)
theorem Find_eq (l : List S56) (n : ByteArray) (hn : n.size ≤ 140737488352000) (hz : ∀ d ∈ l, d.f0.size ≤ 1000000) (hv : ∀ d ∈ l, d.f1.length ≤ 100000) : csp_Find.f l n = some (findB l n) := by
  unfold csp_Find.f findB
  have h := idxFrom_eq n hn l 0 hz
  rw [show ((0 : Nat) : Int) = 0 from rfl] at h
  rw [h]
  show (if idxB n l 0 < 0 then _ else _) = _
  rcases idxB_range n l 0 with h1 | ⟨h1, h2⟩
  · rw [if_pos (by omega), if_pos (by omega)]
  · have hnn : ¬ idxB n l 0 < 0 := by omega
    rw [if_neg hnn, if_neg hnn, if_pos (by omega)]
    obtain ⟨m, hm⟩ := Int.eq_ofNat_of_zero_le (show 0 ≤ idxB n l 0 by omega)
    have hml : m < l.length := by omega
    rw [hm]
    have e : rd_T56 l (Int.ofNat m) = l[m] := rd56_at l m hml
    rw [show ((m : Nat) : Int) = Int.ofNat m from rfl, e, if_pos (Nat.le_trans (hv _ (List.getElem_mem hml)) (by omega))]
theorem refFindB_ev (l : List S56) (n : ByteArray) (hn : n.size ≤ 140737488352000) (hl : l.length ≤ 100000) (hz : ∀ d ∈ l, d.f0.size ≤ 1000000) : Ev (fun k => abatisref15_Find.f k (asB l) n) (findB l n) := by
  unfold abatisref15_Find.f findB
  refine Ev.bind (refFind_ev n hn l hl hz) ?_
  rcases idxB_range n l 0 with h1 | ⟨h1, h2⟩
  · refine ev_pos (by omega) (ev_now ?_)
    rw [if_pos (by omega)]
  · have hnn : ¬ idxB n l 0 < 0 := by omega
    obtain ⟨m, hm⟩ := Int.eq_ofNat_of_zero_le (show 0 ≤ idxB n l 0 by omega)
    have hml : m < l.length := by omega
    refine ev_neg hnn (ev_pos (by omega) (ev_pos (by rw [asB_length]; omega) (ev_now ?_)))
    rw [if_neg hnn, hm]
    have e1 : rd_T56 l ((m : Nat) : Int) = l[m] := rd56_at l m hml
    have e2 : rd_T57 (asB l) ((m : Nat) : Int) = ⟨l[m].f0, l[m].f1⟩ := rd57_at l m hml
    rw [e1, e2]
theorem findB_small (l : List S56) (n : ByteArray) (hv : ∀ d ∈ l, d.f1.length ≤ 100000) : (findB l n).1.length ≤ 100000 := by
  unfold findB
  split
  · simp
  · rename_i hnn
    rcases idxB_range n l 0 with h1 | ⟨h1, h2⟩
    · omega
    · obtain ⟨m, hm⟩ := Int.eq_ofNat_of_zero_le (show 0 ≤ idxB n l 0 by omega)
      have hml : m < l.length := by omega
      show (rd_T56 l (idxB n l 0)).f1.length ≤ _
      rw [hm]
      have e1 : rd_T56 l ((m : Nat) : Int) = l[m] := rd56_at l m hml
      rw [e1]
      exact hv _ (List.getElem_mem hml)
theorem CspParse_ev (a n : ByteArray) (hn : n.size ≤ 140737488351232) : Ev (fun k => abatislaw15_CspParse.f k a n) true := by
  have h1 : abatisref01_Few.f a 200 = some (few a 200) := Few_eq a 200
  have s1 := few_size a 200
  unfold abatislaw15_CspParse.f
  generalize few a 200 = s at *
  have q := parse_small s (by omega)
  have ql := parse_low s (by omega)
  have hv : ∀ d ∈ parseB s, d.f1.length ≤ 100000 := fun d hd => Nat.le_trans (q.2 d hd) (by omega)
  have hw := words_length s
  have hn2 : n.size ≤ 140737488352000 := by omega
  refine ev_get h1 (Ev.bind (Parse_ev s (by omega)) (ev_get (Find_eq (parseB s) n hn2 ql.2 hv) ?_))
  refine Ev.bind (refParse_ev s (by omega)) (Ev.bind (refFindB_ev (parseB s) n hn2 (by omega) ql.2) (Ev.bind (as_ev (parseB s) (by omega)) (Ev.bind (refParse_ev s (by omega)) ?_)))
  refine Ev.bind (sameAs_ev (parseB s) (by omega) hv) (ev_true (ev_get (Words_eq s (by omega)) (Ev.bind (refWords_ev s (by omega)) (Ev.bind (same_ev (wordsOf s) (by omega)) (ev_true ?_)))))
  refine Ev.bind (same_ev (findB (parseB s) n).1 (findB_small (parseB s) n hv)) (ev_true (ev_pos ?_ (Ev.bind lives15_ev (Ev.now _))))
  simp
end Go.Proofs.Ytcpeecacoblbhaa.P
