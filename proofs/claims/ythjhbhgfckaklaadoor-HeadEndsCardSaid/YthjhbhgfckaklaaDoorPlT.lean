/-
  Plain laws: where a head ends; what head.Read gives of a cut head, of many lines, of no line.
-/
import Derived.Test.YthjhbhgfckaklaaDoorBase
import Derived.Test.YthjhbhgfckaklaaDoorPD2
namespace Go.Proofs.YthjhbhgfckaklaaDoor.P
open Go.RowKit Go.Proofs.YthjhbhgfckaklaaDoorW.PrintWords Go.Proofs.YthjhbhgfckaklaaDoorW.PrintLast Go.Proofs.YthjhbhgfckaklaaDoorW.PrintMore
set_option linter.unusedVariables false
set_option linter.unusedSimpArgs false

def NoCR (l : List UInt8) : Prop := ∀ b ∈ l, b ≠ 13
def end4 : List UInt8 := [13, 10, 13, 10]
/-- Lines, each with its end, and the end of all. -/
def headL : List (List UInt8) → List UInt8
  | [] => [13, 10]
  | s :: r => s ++ 13 :: 10 :: headL r
theorem occ_at {s : List UInt8} {j : Nat} (h : Lib.occAt s end4 j = true) : s[j]? = some 13 ∧ s[j + 1]? = some 10 ∧ s[j + 2]? = some 13 ∧ s[j + 3]? = some 10 := by
  unfold Lib.occAt end4 at h
  obtain ⟨t, ht⟩ := List.isPrefixOf_iff_prefix.1 h
  have g : ∀ i, s[j + i]? = (([13, 10, 13, 10] : List UInt8) ++ t)[i]? := fun i => by rw [ht, List.getElem?_drop]
  exact ⟨(g 0).trans rfl, (g 1).trans rfl, (g 2).trans rfl, (g 3).trans rfl⟩
theorem head_only : ∀ segs : List (List UInt8), (∀ s ∈ segs, NoCR s ∧ s ≠ []) → ∀ j, Lib.occAt (headL segs) end4 j = true → (headL segs).length = j + 4
  | [], _, j, h => by
    have h3 := (occ_at h).2.2.2
    have h4 : j + 3 < (headL []).length := (List.getElem?_eq_some_iff.1 h3).1
    have h5 : (headL []).length = 2 := rfl
    omega
  | s :: r, hs, j, h => by
    obtain ⟨h0, h1, h2, h3⟩ := occ_at h
    have hE : headL (s :: r) = s ++ 13 :: 10 :: headL r := rfl
    have hcr := (hs s List.mem_cons_self).1
    rw [hE] at h0 h1 h2 h3 h ⊢
    by_cases c1 : j < s.length
    · rw [List.getElem?_append_left c1] at h0
      exact absurd rfl (hcr 13 (List.mem_of_getElem? h0))
    · obtain ⟨q, rfl⟩ : ∃ q, j = s.length + q := ⟨j - s.length, by omega⟩
      have app : ∀ i, (s ++ 13 :: 10 :: headL r)[s.length + i]? = (13 :: 10 :: headL r)[i]? := fun i => by
        rw [List.getElem?_append_right (by omega), Nat.add_sub_cancel_left]
      rw [app] at h0
      rw [Nat.add_assoc, app] at h1 h2 h3
      match q, h0, h1, h2, h3, h with
      | 0, _, _, h2, _, _ =>
        cases r with
        | nil => rw [List.length_append]; rfl
        | cons s' r' =>
          exfalso
          obtain ⟨hc', hn'⟩ := hs s' (List.mem_cons_of_mem _ List.mem_cons_self)
          cases s' with
          | nil => exact hn' rfl
          | cons b s' =>
            have hb : some b = some (13 : UInt8) := h2
            exact hc' b List.mem_cons_self (Option.some.inj hb)
      | 1, h0, _, _, _, _ =>
        have hb : some (10 : UInt8) = some 13 := h0
        exact absurd hb (by decide)
      | q + 2, _, _, _, _, h =>
        have hd : (s ++ 13 :: 10 :: headL r).drop (s.length + (q + 2)) = (headL r).drop q := by
          rw [← List.drop_drop, List.drop_left]
          rfl
        have ho : Lib.occAt (headL r) end4 q = true := by
          unfold Lib.occAt at h ⊢
          rw [hd] at h
          exact h
        have ih := head_only r (fun x hx => hs x (List.mem_cons_of_mem _ hx)) q ho
        rw [List.length_append, List.length_cons, List.length_cons, ih]
        omega
theorem index_cut (segs : List (List UInt8)) (hs : ∀ s ∈ segs, NoCR s ∧ s ≠ []) (k : Nat) (hk : k < (headL segs).length) : Lib.index ((headL segs).take k) end4 = -1 := by
  refine Lib.index_none (fun j _ => ?_)
  by_cases c : Lib.occAt ((headL segs).take k) end4 j = true
  · exfalso
    have h3 := (occ_at c).2.2.2
    have h4 : j + 3 < ((headL segs).take k).length := (List.getElem?_eq_some_iff.1 h3).1
    rw [List.length_take] at h4
    have ho : Lib.occAt (headL segs) end4 j = true := by
      unfold Lib.occAt at c ⊢
      exact List.isPrefixOf_iff_prefix.2 ((List.isPrefixOf_iff_prefix.1 c).trans (by rw [List.drop_take]; exact List.take_prefix _ _))
    have := head_only segs hs j ho
    omega
  · simpa using c
/-- Lines with their ends between. -/
def joinL : List (List UInt8) → List UInt8
  | [] => []
  | [s] => s
  | s :: r => s ++ 13 :: 10 :: joinL r
theorem head_join : ∀ (s : List UInt8) (r : List (List UInt8)), headL (s :: r) = joinL (s :: r) ++ end4
  | s, [] => rfl
  | s, x :: r => by
    have ih := head_join x r
    show s ++ 13 :: 10 :: headL (x :: r) = (s ++ 13 :: 10 :: joinL (x :: r)) ++ end4
    rw [ih, List.append_assoc]
    rfl
theorem index_end (s : List UInt8) (r : List (List UInt8)) (hs : ∀ x ∈ s :: r, NoCR x ∧ x ≠ []) : Lib.index (headL (s :: r)) end4 = ((joinL (s :: r)).length : Int) := by
  have he := head_join s r
  have hl : (headL (s :: r)).length = (joinL (s :: r)).length + 4 := by rw [he, List.length_append]; rfl
  refine Lib.index_first (by omega) ?_ (fun j hj => ?_)
  · rw [he]
    unfold Lib.occAt
    rw [List.drop_left]
    decide
  · by_cases c : Lib.occAt (headL (s :: r)) end4 j = true
    · have := head_only _ hs j c
      omega
    · simpa using c

/-! ### the lines of a text -/
def crl : ByteArray := ⟨#[13, 10]⟩
theorem index_seg (s t : List UInt8) (hs : NoCR s) : Lib.index (s ++ 13 :: 10 :: t) [13, 10] = (s.length : Int) := by
  refine Lib.index_first (by rw [List.length_append]; omega) ?_ (fun j hj => ?_)
  · unfold Lib.occAt
    rw [List.drop_left]
    simp [List.isPrefixOf]
  · by_cases c : Lib.occAt (s ++ 13 :: 10 :: t) [13, 10] j = true
    · exfalso
      have h0 := Lib.occAt_head rfl c
      rw [List.getElem?_append_left hj] at h0
      exact hs 13 (List.mem_of_getElem? h0) rfl
    · simpa using c
theorem index_last (s : List UInt8) (hs : NoCR s) : Lib.index s [13, 10] = -1 := by
  refine Lib.index_none (fun j hj => ?_)
  by_cases c : Lib.occAt s [13, 10] j = true
  · exfalso
    exact hs 13 (List.mem_of_getElem? (Lib.occAt_head rfl c)) rfl
  · simpa using c
def baOf (l : List UInt8) : ByteArray := ⟨l.toArray⟩
theorem baOf_data (u : ByteArray) (l : List UInt8) (h : u.data.toList = l) : u = baOf l := by
  apply ByteArray.ext
  apply Array.ext'
  exact h
theorem split_join : ∀ (s : List UInt8) (r : List (List UInt8)) (u : ByteArray), (∀ x ∈ s :: r, NoCR x) → u.data.toList = joinL (s :: r) → Lib.splitB crl 0 (Lib.countB u crl) u = (s :: r).map baOf
  | s, [], u, hs, hu => by
    have hi : Lib.indexB u crl = -1 := by
      show Lib.index u.data.toList [13, 10] = -1
      rw [hu]
      exact index_last s (hs s List.mem_cons_self)
    rw [Lib.countB_miss u crl hi, Lib.splitB_zero, baOf_data u s hu]
    rfl
  | s, x :: r, u, hs, hu => by
    have hu2 : u.data.toList = s ++ 13 :: 10 :: joinL (x :: r) := hu
    have hi : Lib.indexB u crl = (s.length : Int) := by
      show Lib.index u.data.toList [13, 10] = _
      rw [hu2]
      exact index_seg s _ (hs s List.mem_cons_self)
    have hz : crl.size = 2 := rfl
    rw [Lib.countB_hit u crl s.length (by rw [hz]; omega) hi, Nat.add_comm 1, Lib.splitB_hit crl 0 _ u s.length hi, hz]
    have e1 : u.extract 0 (s.length + 0) = baOf s := by
      refine baOf_data _ _ ?_
      rw [Nat.add_zero, Lib.extract_from_zero, hu2, List.take_left]
    have e2 : (u.extract (s.length + 2) u.size).data.toList = joinL (x :: r) := by
      rw [ByteArray.data_extract, Array.toList_extract, List.extract_eq_take_drop, hu2]
      have hd : (s ++ 13 :: 10 :: joinL (x :: r)).drop (s.length + 2) = joinL (x :: r) := by
        rw [← List.drop_drop, List.drop_left]
        rfl
      rw [hd]
      refine List.take_of_length_le ?_
      have hl : u.size = (s ++ 13 :: 10 :: joinL (x :: r)).length := by rw [← hu2, data_length]
      rw [hl, List.length_append, List.length_cons, List.length_cons]
      omega
    rw [e1, split_join x r _ (fun y hy => hs y (List.mem_cons_of_mem _ hy)) e2]
    rfl

/-! ### head.Read -/
theorem mn_le (a b : Int) : mn a b = if a ≤ b then a else b := by unfold mn; omega
/-- A text without an end: none yet, or too long. -/
theorem Read_none (b : ByteArray) (hb : b.size < 4294967281) (h : Lib.index (b.extract 0 (min b.size 8192)).data.toList end4 = -1) :
    Ev (fun k => head_Read.f k b) (0, ([] : List S25), 0, if 8192 ≤ b.size then 3 else 4) := by
  have e : mn (b.size : Int) 8192 = ((min b.size 8192 : Nat) : Int) := by rw [mn_le]; split <;> omega
  have hi : strings_Index.f (b.extract 0 (min b.size 8192)) (⟨#[13, 10, 13, 10]⟩ : ByteArray) = some (-1) := by
    unfold strings_Index.f
    rw [if_pos (by rw [ByteArray.size_extract]; omega)]
    exact congrArg some h
  unfold head_Read.f
  rw [e, Int.toNat_natCast]
  refine ev_pos (by omega) (ev_pos (by omega) (ev_get hi (ev_pos (by omega) ?_)))
  by_cases c : 8192 ≤ b.size
  · rw [decide_eq_true (by omega), if_pos c]
    exact Ev.step (fun k => head_Read.j0.eq_2 ..) (ev_pos rfl (ev_now rfl))
  · rw [decide_eq_false (by omega), if_neg c]
    exact Ev.step (fun k => head_Read.j0.eq_2 ..) (ev_neg (by decide) (ev_pos (by omega) (ev_now rfl)))
/-- A head that is cut ahead of its end is none yet. -/
theorem Read_cut (s : ByteArray) (segs : List (List UInt8)) (hs : ∀ x ∈ segs, NoCR x ∧ x ≠ []) (hd : s.data.toList = headL segs) (k : Nat) (hk : k < s.size) (hz : s.size ≤ 8192) :
    Ev (fun n => head_Read.f n (s.extract 0 k)) (0, ([] : List S25), 0, 4) := by
  have hsz : (s.extract 0 k).size = k := by rw [ByteArray.size_extract]; omega
  have h := Read_none (s.extract 0 k) (by omega) (by
    rw [Lib.extract_from_zero, Lib.extract_from_zero, hd, hsz, Nat.min_eq_left (by omega), List.take_take, Nat.min_self]
    refine index_cut segs hs k ?_
    rw [← hd, data_length]
    exact hk)
  rw [hsz, if_neg (by omega)] at h
  exact h

/-! ### many lines -/
def lineA : ByteArray := ⟨#[97, 58]⟩
def hdrA : S25 := ⟨(⟨#[97]⟩ : ByteArray), (⟨#[]⟩ : ByteArray)⟩
theorem cut_lineA : strings_Cut.f lineA (⟨#[58]⟩ : ByteArray) = some ((⟨#[97]⟩ : ByteArray), (⟨#[]⟩ : ByteArray), true) := by decide +kernel
theorem trim_nothing : text_Trim.f (⟨#[]⟩ : ByteArray) = some (⟨#[]⟩ : ByteArray) := by decide +kernel
theorem header_A : head_header.f (⟨#[97]⟩ : ByteArray) (⟨#[]⟩ : ByteArray) = some true := by decide +kernel
def line0 : ByteArray := ⟨#[72, 84, 84, 80, 47, 49, 46, 48, 32, 53, 57, 57, 32, 120]⟩
theorem status_0 : Ev (fun k => head_status.f k line0) (599, true) := Ev.of (fun k => head_status.mono line0 k) (k := 20) (by decide +kernel)
theorem lines_loop (n : Nat) (at' : Int) (d : Nat) : ∀ (i : Nat) (out : List S25), i + d = n → n ≤ 1000 → out.length ≤ i → ∃ l, Ev (fun k => head_Read.l0 k at' (List.replicate n lineA) (n : Int) (i : Int) 599 out) (599, l, wrap64 (at' + 4), 0) := by
  induction d with
  | zero =>
    intro i out hi hn ho
    exact ⟨out, Ev.step (fun k => head_Read.l0.eq_2 ..) (ev_neg (by omega) (ev_now rfl))⟩
  | succ d ih =>
    intro i out hi hn ho
    have e : wrap64 ((i : Int) + 1) = ((i + 1 : Nat) : Int) := by unfold wrap64; omega
    obtain ⟨l, hl⟩ := ih (i + 1) (out ++ [hdrA]) (by omega) hn (by rw [List.length_append, List.length_cons, List.length_nil]; omega)
    have hr : rdOf ByteArray.empty (List.replicate n lineA) (i : Int) = lineA := by
      unfold rdOf
      rw [Int.toNat_natCast, List.getD_eq_getElem?_getD, List.getElem?_replicate, if_pos (by omega)]
      rfl
    refine ⟨l, Ev.step (fun k => head_Read.l0.eq_2 ..) (ev_pos (by omega) (ev_pos (by omega) (ev_pos (by rw [List.length_replicate]; omega) ?_)))⟩
    rw [hr, e]
    exact ev_get cut_lineA (ev_get trim_nothing (ev_pos rfl (ev_get header_A (ev_pos rfl (ev_pos (by omega) hl)))))
def segsA (n : Nat) : List (List UInt8) := line0.data.toList :: List.replicate n [97, 58]
theorem segsA_ok (n : Nat) : ∀ x ∈ segsA n, NoCR x ∧ x ≠ [] := by
  have h0 : (∀ b ∈ line0.data.toList, b ≠ 13) ∧ line0.data.toList ≠ [] := by decide
  have h1 : (∀ b ∈ ([97, 58] : List UInt8), b ≠ 13) ∧ ([97, 58] : List UInt8) ≠ [] := by decide
  intro x hx
  unfold segsA at hx
  rcases List.mem_cons.1 hx with rfl | hx
  · exact h0
  · rw [(List.mem_replicate.1 hx).2]; exact h1
theorem Read_lines (t : ByteArray) (n : Nat) (hn : n ≤ 130) (hd : t.data.toList = headL (segsA n)) (hz : t.size ≤ 8192) :
    ∃ a l m c, Ev (fun k => head_Read.f k t) (a, l, m, c) ∧ (c = if n ≤ 64 then 0 else 3) := by
  have hok := segsA_ok n
  have hsz : t.size = (headL (segsA n)).length := by rw [← hd, data_length]
  have hj := head_join line0.data.toList (List.replicate n [97, 58])
  have hl : (headL (segsA n)).length = (joinL (segsA n)).length + 4 := by
    unfold segsA
    rw [hj, List.length_append]
    rfl
  have e : mn (t.size : Int) 8192 = (t.size : Int) := by rw [mn_le, if_pos (by omega)]
  have hfull : t.extract 0 t.size = t := by
    apply ByteArray.ext
    apply Array.ext'
    rw [Lib.extract_from_zero, List.take_of_length_le (by rw [data_length]; omega)]
  have hi : strings_Index.f t (⟨#[13, 10, 13, 10]⟩ : ByteArray) = some (((joinL (segsA n)).length : Nat) : Int) := by
    unfold strings_Index.f
    rw [if_pos (by omega)]
    refine congrArg some ?_
    rw [hd]
    exact index_end _ _ hok
  have hsp : strings_Split.f (t.extract 0 (joinL (segsA n)).length) (⟨#[13, 10]⟩ : ByteArray) = some (line0 :: List.replicate n lineA) := by
    unfold strings_Split.f
    rw [if_pos ⟨by rw [ByteArray.size_extract]; omega, by decide⟩]
    refine congrArg some ?_
    have h := split_join line0.data.toList (List.replicate n [97, 58]) (t.extract 0 (joinL (segsA n)).length) (fun x hx => (hok x hx).1) (by
      rw [Lib.extract_from_zero, hd]
      unfold segsA
      rw [hj, List.take_left])
    rw [List.map_cons, List.map_replicate] at h
    exact h
  have hst : ∀ b : Bool, b = false → ∃ a l m c, Ev (fun k => head_Read.j0 k t (((joinL (segsA n)).length : Nat) : Int) b) (a, l, m, c) ∧ (c = if n ≤ 64 then 0 else 3) := by
    intro b hb
    subst hb
    have e2 : wrap64 (((line0 :: List.replicate n lineA).length : Int) - 1) = (n : Int) := by
      rw [List.length_cons, List.length_replicate]
      unfold wrap64; omega
    by_cases c : n ≤ 64
    · obtain ⟨l, hlp⟩ := lines_loop n (((joinL (segsA n)).length : Nat) : Int) n 0 [] (by omega) (by omega) (by simp)
      refine ⟨599, l, wrap64 ((((joinL (segsA n)).length : Nat) : Int) + 4), 0, Ev.step (fun k => head_Read.j0.eq_2 ..) (ev_neg (by decide) (ev_neg (by omega) (ev_pos (by omega) (ev_pos (by omega) ?_)))), (if_pos c).symm⟩
      rw [Int.toNat_natCast]
      refine ev_get hsp (ev_pos (by rw [List.length_cons]; omega) (Ev.bind status_0 (ev_pos rfl ?_)))
      rw [e2]
      refine ev_neg (by omega) (ev_pos (by rw [List.length_cons]; omega) (ev_get rfl ?_))
      show Ev (fun k => head_Read.l0 k _ (List.replicate n lineA) ((List.replicate n lineA).length : Int) 0 599 []) _
      rw [List.length_replicate]
      exact hlp
    · refine ⟨0, [], 0, 3, Ev.step (fun k => head_Read.j0.eq_2 ..) (ev_neg (by decide) (ev_neg (by omega) (ev_pos (by omega) (ev_pos (by omega) ?_)))), (if_neg c).symm⟩
      rw [Int.toNat_natCast]
      refine ev_get hsp (ev_pos (by rw [List.length_cons]; omega) (Ev.bind status_0 (ev_pos rfl ?_)))
      rw [e2]
      exact ev_pos (by omega) (ev_now rfl)
  obtain ⟨a, l, m, c, h1, h2⟩ := hst false rfl
  refine ⟨a, l, m, c, ?_, h2⟩
  unfold head_Read.f
  rw [e, Int.toNat_natCast, hfull]
  exact ev_pos (by omega) (ev_pos (by omega) (ev_get hi (ev_neg (by omega) h1)))
end Go.Proofs.YthjhbhgfckaklaaDoor.P
