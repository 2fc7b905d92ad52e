/-
  Plain laws: HeadLists.
-/
import Derived.Test.YthjhbhgfckaklabDoorPhA
import Derived.Test.YthjhbhgfckaklabDoorPE11
namespace Go.Proofs.YthjhbhgfckaklabDoor.P
open Go.RowKit Go.Proofs.YthjhbhgfckaklabDoorW.PrintWords Go.Proofs.YthjhbhgfckaklabDoorW.PrintLast Go.Proofs.YthjhbhgfckaklabDoorW.PrintMore
set_option linter.unusedVariables false
set_option linter.unusedSimpArgs false

theorem keepT_append : ∀ a b, keepT (a ++ b) = keepT a ++ keepT b
  | [], b => rfl
  | p :: a, b => by
    have e1 : ∀ l, keepT (p :: l) = if (trimB p).toList = ([] : List UInt8) then keepT l else trimB p :: keepT l := fun _ => rfl
    rw [List.cons_append, e1, e1, keepT_append a b]
    split <;> rfl
def comma : ByteArray := ⟨#[44]⟩
theorem pieces_fold (L : List ByteArray) : ∀ a : ByteArray, ∃ b, L.foldl (jStep comma) (some a) = some b ∧ keepT (pieces b 44) = keepT (pieces a 44) ++ listV L := by
  induction L with
  | nil => intro a; exact ⟨a, rfl, (List.append_nil _).symm⟩
  | cons x L ih =>
    intro a
    obtain ⟨b, h1, h2⟩ := ih (a ++ comma ++ x)
    refine ⟨b, h1, ?_⟩
    have e : listV (x :: L) = keepT (pieces x 44) ++ listV L := rfl
    rw [h2, pieces_append a x comma 44 (by decide +kernel), keepT_append, e, List.append_assoc]
theorem pieces_join (L : List ByteArray) : keepT (pieces (joinB comma L) 44) = listV L := by
  cases L with
  | nil => decide +kernel
  | cons x L =>
    obtain ⟨b, h1, h2⟩ := pieces_fold L x
    have e : joinB comma (x :: L) = b := by
      unfold joinB jOpt
      rw [List.foldl_cons]
      show (L.foldl (jStep comma) (some x)).getD _ = b
      rw [h1]
      rfl
    rw [e, h2]
    rfl

/-! ### what the pieces are -/
theorem splitB_free (c : Int) : ∀ l : List Int, (∀ x ∈ (splitB c l).1, x ≠ c ∧ x ∈ l) ∧ ∀ q ∈ (splitB c l).2, ∀ x ∈ q, x ≠ c ∧ x ∈ l
  | [] => ⟨fun x hx => (List.not_mem_nil hx).elim, fun q hq => (List.not_mem_nil hq).elim⟩
  | y :: l => by
    obtain ⟨h1, h2⟩ := splitB_free c l
    have e1 : splitB c (y :: l) = if y = c then ([], (splitB c l).1 :: (splitB c l).2) else (y :: (splitB c l).1, (splitB c l).2) := rfl
    rw [e1]
    by_cases h : y = c
    · rw [if_pos h]
      refine ⟨fun x hx => (List.not_mem_nil hx).elim, fun q hq x hx => ?_⟩
      rcases List.mem_cons.1 hq with rfl | hq
      · exact ⟨(h1 x hx).1, List.mem_cons_of_mem _ (h1 x hx).2⟩
      · exact ⟨(h2 q hq x hx).1, List.mem_cons_of_mem _ (h2 q hq x hx).2⟩
    · rw [if_neg h]
      refine ⟨fun x hx => ?_, fun q hq x hx => ⟨(h2 q hq x hx).1, List.mem_cons_of_mem _ (h2 q hq x hx).2⟩⟩
      rcases List.mem_cons.1 hx with rfl | hx
      · exact ⟨h, List.mem_cons_self⟩
      · exact ⟨(h1 x hx).1, List.mem_cons_of_mem _ (h1 x hx).2⟩
theorem bytes_range (s : ByteArray) : ∀ x ∈ bytesOf s, 0 ≤ x ∧ x ≤ 255 := by
  intro x hx
  unfold bytesOf at hx
  simp only [List.mem_map] at hx
  obtain ⟨b, _, rfl⟩ := hx
  have := b.toNat_lt
  omega
theorem pieces_free (s : ByteArray) (c : Int) : ∀ p ∈ pieces s c, ∀ x ∈ bytesOf p, x ≠ c := by
  obtain ⟨h1, h2⟩ := splitB_free c (bytesOf s)
  intro p hp x hx
  unfold pieces at hp
  rcases List.mem_cons.1 hp with rfl | hp
  · rw [bytesOf_strOf _ (fun y hy => bytes_range s y (h1 y hy).2)] at hx
    exact (h1 x hx).1
  · simp only [List.mem_map] at hp
    obtain ⟨q, hq, rfl⟩ := hp
    rw [bytesOf_strOf _ (fun y hy => bytes_range s y (h2 q hq y hy).2)] at hx
    exact (h2 q hq x hx).1
theorem trimB_mem (s : ByteArray) : ∀ x ∈ bytesOf (trimB s), x ∈ bytesOf s := by
  intro x hx
  unfold bytesOf trimB at hx
  unfold bytesOf
  simp only [List.mem_map] at hx ⊢
  obtain ⟨b, hb, rfl⟩ := hx
  refine ⟨b, ?_, rfl⟩
  unfold Lib.trimS Lib.trimLeftS Lib.trimRightS at hb
  have h1 := (List.dropWhile_sublist _).subset hb
  rw [List.mem_reverse] at h1
  have h2 := (List.dropWhile_sublist _).subset h1
  rw [List.mem_reverse] at h2
  exact h2
theorem trimB_twice (s : ByteArray) (hs : s.size ≤ 1000) : trimB (trimB s) = trimB s := by
  obtain ⟨t, h1, h2, h3, h4⟩ := trim_all s hs
  have e : trimB s = t := h3
  rw [e]
  unfold trimB
  rw [trim_bare _ h4]
def GoodT (x : ByteArray) : Prop := ¬ (x.toList = ([] : List UInt8)) ∧ trimB x = x ∧ (∀ y ∈ bytesOf x, y ≠ 44) ∧ x.size ≤ 1000
theorem keepT_good : ∀ L : List ByteArray, (∀ p ∈ L, p.size ≤ 1000 ∧ ∀ y ∈ bytesOf p, y ≠ 44) → ∀ x ∈ keepT L, GoodT x
  | [], _, x, hx => by cases hx
  | p :: L, hL, x, hx => by
    have ih := keepT_good L (fun q hq => hL q (List.mem_cons_of_mem _ hq))
    have hp := hL p List.mem_cons_self
    unfold keepT at hx
    split at hx
    · exact ih x hx
    · rename_i hne
      rcases List.mem_cons.1 hx with rfl | hx
      · exact ⟨hne, trimB_twice p hp.1, fun y hy => hp.2 y (trimB_mem p y hy), Nat.le_trans (refTrim_ev p hp.1).2 hp.1⟩
      · exact ih x hx
theorem listV_good : ∀ V : List ByteArray, (∀ v ∈ V, v.size ≤ 1000) → ∀ x ∈ listV V, GoodT x
  | [], _, x, hx => by cases hx
  | v :: V, hV, x, hx => by
    unfold listV at hx
    rcases List.mem_append.1 hx with hx | hx
    · exact keepT_good _ (fun p hp => ⟨Nat.le_trans (pieces_size v 44 p hp) (hV v List.mem_cons_self), pieces_free v 44 p hp⟩) x hx
    · exact listV_good V (fun q hq => hV q (List.mem_cons_of_mem _ hq)) x hx

/-! ### the statement -/
def nA : ByteArray := ⟨#[65]⟩
def na : ByteArray := ⟨#[97]⟩
def nb : ByteArray := ⟨#[98]⟩
theorem like_Aa : likeB nA na = true := by decide +kernel
theorem like_ba : likeB nb na = false := by decide +kernel
theorem like_aA : likeB na nA = true := by decide +kernel
def hOf : List ByteArray → List S26
  | [] => []
  | s :: l => ⟨nA, s⟩ :: ⟨nb, s⟩ :: hOf l
theorem hOf_append : ∀ a b, hOf (a ++ b) = hOf a ++ hOf b
  | [], b => rfl
  | s :: a, b => by
    have e1 : ∀ l, hOf (s :: l) = ⟨nA, s⟩ :: ⟨nb, s⟩ :: hOf l := fun _ => rfl
    rw [List.cons_append, e1, e1, hOf_append a b]
    rfl
theorem hOf_length : ∀ l, (hOf l).length = 2 * l.length
  | [] => rfl
  | s :: l => by
    have e1 : hOf (s :: l) = ⟨nA, s⟩ :: ⟨nb, s⟩ :: hOf l := rfl
    rw [e1, List.length_cons, List.length_cons, hOf_length l, List.length_cons]
    omega
theorem hOf_hs : ∀ l : List ByteArray, (∀ s ∈ l, s.size ≤ 1000) → Hs (hOf l)
  | [], _ => fun h hh => by cases hh
  | s :: l, hl => by
    have ih := hOf_hs l (fun x hx => hl x (List.mem_cons_of_mem _ hx))
    have hs := hl s List.mem_cons_self
    have e1 : hOf (s :: l) = ⟨nA, s⟩ :: ⟨nb, s⟩ :: hOf l := rfl
    intro h hh
    rw [e1] at hh
    rcases List.mem_cons.1 hh with rfl | hh
    · exact ⟨by show (1 : Nat) ≤ 1000; omega, hs⟩
    · rcases List.mem_cons.1 hh with rfl | hh
      · exact ⟨by show (1 : Nat) ≤ 1000; omega, hs⟩
      · exact ih h hh
theorem hOf_all : ∀ l, allB na (hOf l) = l
  | [] => rfl
  | s :: l => by
    have e1 : hOf (s :: l) = ⟨nA, s⟩ :: ⟨nb, s⟩ :: hOf l := rfl
    rw [e1]
    show (if likeB nA na = true then s :: (if likeB nb na = true then s :: allB na (hOf l) else allB na (hOf l)) else _) = _
    rw [if_pos like_Aa, if_neg (by rw [like_ba]; decide), hOf_all l]
theorem lists_l1 (x7 : List S26) (X : List ByteArray) (hX : ∀ x ∈ X, GoodT x) (hl : X.length ≤ 100000) (he : Ev (fun k => head_List.f k x7 nA) X) (d : Nat) : ∀ i : Nat, i + d = X.length → Ev (fun k => abatislaw14_HeadLists.l1 k x7 X (i : Int)) true := by
  induction d with
  | zero =>
    intro i hi
    exact Ev.step (fun k => abatislaw14_HeadLists.l1.eq_2 ..) (ev_neg (by omega) (Ev.bind he (Ev.bind (same_ev X hl) (ev_true (Ev.bind lives14_ev (Ev.now _))))))
  | succ d ih =>
    intro i hi
    have hlt : i < X.length := by omega
    have e : wrap64 ((i : Int) + 1) = ((i + 1 : Nat) : Int) := by unfold wrap64; omega
    obtain ⟨g1, g2, g3, g4⟩ := hX _ (List.getElem_mem hlt)
    have ht := (refTrim_ev X[i] g4).1
    rw [g2] at ht
    have hh := has_ev X[i] g4 44
    have hf : (bytesOf X[i]).any (· == 44) = false := by
      rw [List.any_eq_false]
      intro y hy
      have := g3 y hy
      simpa using this
    rw [hf] at hh
    refine Ev.step (fun k => abatislaw14_HeadLists.l1.eq_2 ..) (ev_pos (by omega) (ev_pos (by omega) ?_))
    rw [rdOf_at X i hlt, e]
    exact ev_neg g1 (Ev.bind ht (ev_pos rfl (Ev.bind hh (ev_false (ih (i + 1) (by omega))))))
theorem lists_j1 (own : List ByteArray) (hl : own.length ≤ 5) (hs : ∀ s ∈ own, s.size ≤ 20) : Ev (fun k => abatislaw14_HeadLists.j1 k (hOf own) own) true := by
  have hs2 : ∀ s ∈ own, s.size ≤ 1000 := fun s h => Nat.le_trans (hs s h) (by omega)
  have hz : jSize comma own ≤ 1000 := by
    have : ∀ (L : List ByteArray) (a : ByteArray), (∀ s ∈ L, s.size ≤ 20) → ∃ b, L.foldl (jStep comma) (some a) = some b ∧ b.size ≤ a.size + 21 * L.length := by
      intro L
      induction L with
      | nil => intro a _; exact ⟨a, rfl, by simp⟩
      | cons x L ih =>
        intro a h
        obtain ⟨b, h1, h2⟩ := ih (a ++ comma ++ x) (fun s hs => h s (List.mem_cons_of_mem _ hs))
        have hx := h x List.mem_cons_self
        refine ⟨b, h1, ?_⟩
        rw [ByteArray.size_append, ByteArray.size_append] at h2
        have hc : comma.size = 1 := rfl
        rw [List.length_cons]
        omega
    unfold jSize joinB jOpt
    cases own with
    | nil => show (0 : Nat) ≤ 1000; omega
    | cons x L =>
      obtain ⟨b, h1, h2⟩ := this L x (fun s h => hs s (List.mem_cons_of_mem _ h))
      rw [List.foldl_cons]
      show ((L.foldl (jStep comma) (some x)).getD _).size ≤ 1000
      rw [h1]
      have hx := hs x List.mem_cons_self
      rw [List.length_cons] at hl
      show b.size ≤ 1000
      omega
  have hj := join_ev own comma (by omega) (by omega)
  have h1 := List_ev na (by decide) (hOf own) (by rw [hOf_length]; omega) (hOf_hs own hs2)
  rw [hOf_all] at h1
  have hone : Hs [⟨na, joinB comma own⟩] := by
    intro h hm
    rw [List.mem_singleton.1 hm]
    exact ⟨by show (1 : Nat) ≤ 1000; omega, hz⟩
  have h2 := List_ev nA (by decide) [⟨na, joinB comma own⟩] (by simp) hone
  have e2 : listV (allB nA [⟨na, joinB comma own⟩]) = listV own := by
    have e3 : allB nA [⟨na, joinB comma own⟩] = [joinB comma own] := if_pos like_aA
    rw [e3]
    show keepT (pieces (joinB comma own) 44) ++ [] = _
    rw [List.append_nil, pieces_join]
  rw [e2] at h2
  have hlen := listV_length own hs2
  refine Ev.step (fun k => abatislaw14_HeadLists.j1.eq_2 ..) (Ev.bind hj (Ev.bind h1 ?_))
  exact lists_l1 _ (listV own) (listV_good own hs2) (by omega) h2 (listV own).length 0 (by omega)
def own20 (l : List ByteArray) : List ByteArray := (l.take 5).map (fun s => few s 20)
theorem own20_small (l : List ByteArray) : (own20 l).length ≤ 5 ∧ ∀ s ∈ own20 l, s.size ≤ 20 := by
  unfold own20
  refine ⟨by rw [List.length_map, List.length_take]; omega, fun s hs => ?_⟩
  simp only [List.mem_map] at hs
  obtain ⟨x, _, rfl⟩ := hs
  exact few_size _ _
theorem own20_all (l : List ByteArray) (i : Nat) (h : i = min 5 l.length) : (l.take i).map (fun s => few s 20) = own20 l := by
  unfold own20
  subst h
  rw [← List.take_eq_take_min]
theorem own20_more (l : List ByteArray) (i : Nat) (h : i < l.length) : (l.take (i + 1)).map (fun s => few s 20) = (l.take i).map (fun s => few s 20) ++ [few l[i] 20] := by
  rw [List.take_add_one, List.getElem?_eq_getElem h, List.map_append]
  rfl
theorem lists_l0 (l : List ByteArray) (d : Nat) : ∀ i : Nat, i + d = min 5 l.length → Ev (fun k => abatislaw14_HeadLists.l0 k l (hOf ((l.take i).map (fun s => few s 20))) ((l.take i).map (fun s => few s 20)) (i : Int)) true := by
  have hs := own20_small l
  induction d with
  | zero =>
    intro i hi
    have hj := lists_j1 (own20 l) hs.1 hs.2
    rw [own20_all l i hi]
    refine Ev.step (fun k => abatislaw14_HeadLists.l0.eq_2 ..) ?_
    by_cases c : (i : Int) < (l.length : Int)
    · exact ev_pos c (ev_neg (by omega) hj)
    · exact ev_neg c hj
  | succ d ih =>
    intro i hi
    have hlt : i < l.length := by omega
    have e : wrap64 ((i : Int) + 1) = ((i + 1 : Nat) : Int) := by unfold wrap64; omega
    have hn := ih (i + 1) (by omega)
    rw [own20_more l i hlt, hOf_append] at hn
    have h5 : ((l.take i).map (fun s => few s 20)).length ≤ 5 := by rw [List.length_map, List.length_take]; omega
    refine Ev.step (fun k => abatislaw14_HeadLists.l0.eq_2 ..) (ev_pos (by omega) (ev_pos (by omega) (ev_pos (by omega) ?_)))
    rw [rdOf_at l i hlt, e]
    refine ev_get (Few_eq _ 20) (ev_get rfl (ev_pos ?_ (ev_pos (by omega) hn)))
    rw [hOf_length]
    show 2 * _ + 2 < _
    omega
theorem HeadLists_ev (l : List ByteArray) : Ev (fun k => abatislaw14_HeadLists.f k l) true := lists_l0 l (min 5 l.length) 0 (by omega)
end Go.Proofs.YthjhbhgfckaklabDoor.P
