/-
  Texts of the proof, put together.
-/
import Derived.Lib.ItoaMem
import Derived.Test.YthjhbhgfckaklaaDoorGoC
import Derived.Test.YthjhbhgfckaklaaDoorM7
import Derived.Test.YthjhbhgfckaklaaDoorM5
import Derived.Test.YthjhbhgfckaklaaDoorM3
import Derived.Test.YthjhbhgfckaklaaDoorPU2
import Derived.Test.YthjhbhgfckaklaaDoorPU3
import Derived.Test.YthjhbhgfckaklaaDoorPU4
import Derived.Test.YthjhbhgfckaklaaDoorPU5
section
namespace Go.Proofs.YthjhbhgfckaklaaDoor.P
open Go.RowKit Go.Proofs.YthjhbhgfckaklaaDoorW.PrintWords Go.Proofs.YthjhbhgfckaklaaDoorW.PrintLast Go.Proofs.YthjhbhgfckaklaaDoorW.PrintMore
set_option linter.unusedVariables false
set_option linter.unusedSimpArgs false
theorem tokenB_vis : ∀ n : Nat, n < 256 → tokenB (n : Int) = true → 33 ≤ n ∧ n ≤ 126 := by decide +kernel
theorem tokB_vis (s : ByteArray) (h : tokB s = true) : Vis s := by
 intro x hx
 unfold tokB at h
 rw [Bool.and_eq_true] at h
 have ht := List.all_eq_true.1 h.1 x hx
 have hr := bytesOf_range s x hx
 obtain ⟨n, rfl⟩ := Int.eq_ofNat_of_zero_le hr.1
 have := tokenB_vis n (by omega) ht
 omega
def Tok20 (s : ByteArray) : Prop := tokB s = true ∧ s.size ≤ 20
def NamesOk (l : List ByteArray) : Prop := l.length ≤ 4 ∧ ∀ p ∈ l, Tok20 p
def MakeOk (r : ByteArray × ByteArray × Int × ByteArray × ByteArray × Int × ByteArray × ByteArray × ByteArray × List ByteArray × Bool) : Prop :=
 (IsScheme r.1 ∧ VisN 200 r.2.1 ∧ 0 ≤ r.2.2.1 ∧ r.2.2.1 ≤ 65535) ∧ UrlOk r.2.2.2.1 r.2.2.2.2.1 r.2.2.2.2.2.1 r.2.2.2.2.2.2.1 r.2.2.2.2.2.2.2.1 ∧ Tok20 r.2.2.2.2.2.2.2.2.1 ∧ NamesOk r.2.2.2.2.2.2.2.2.2.1
theorem make_loop (x3 : List ByteArray) (hl : x3.length ≤ 9223372036854775807) (hp : ∀ p ∈ x3, p.size ≤ 9223372036854775807) (a b : ByteArray) (c : Int) (d e : ByteArray) (f : Int) (g h m : ByteArray) (lb : Bool)
  (h1 : IsScheme a ∧ VisN 200 b ∧ 0 ≤ c ∧ c ≤ 65535) (h2 : UrlOk d e f g h) (h3 : Tok20 m) (q : Nat) : ∀ (i : Nat) (out : List ByteArray), i + q = x3.length → NamesOk out → EvP (fun k => r17_Make.l0 k x3 (i : Int) a b c d e f g h m out lb) MakeOk := by
 have hend : ∀ (i : Nat) (out : List ByteArray), NamesOk out → EvP (fun k => r17_Make.j3 k x3 (i : Int) false a b c d e f g h m out lb) MakeOk := fun i out ho =>
  evp_step (fun k => r17_Make.j3.eq_2 ..) (evp_neg (by decide) (evp_now ⟨h1, h2, h3, ho⟩))
 induction q with
 | zero =>
  intro i out hi ho
  exact evp_step (fun k => r17_Make.l0.eq_2 ..) (evp_neg (by omega) (hend i out ho))
 | succ q ih =>
  intro i out hi ho
  refine evp_step (fun k => r17_Make.l0.eq_2 ..) (evp_pos (by omega) ?_)
  by_cases h4 : (out.length : Int) < 4
  ·rw [decide_eq_true h4]
   refine evp_step (fun k => r17_Make.j3.eq_2 ..) (evp_pos rfl ?_)
   have e1 : wrap64 ((i : Int) + 1) = ((i + 1 : Nat) : Int) := by unfold wrap64; omega
   rw [e1]
   have hm := rdOf_mem x3 i (by omega)
   have hz := hp _ hm
   generalize rdOf ByteArray.empty x3 (i : Int) = s at hz
   refine evp_pos (by omega) (evp_pos (by omega) (evp_bind (EvP.of (refToken_ev s hz) rfl) (fun t ht => evp_ite (fun h5 => evp_ite (fun h6 => evp_pos (by omega) (ih (i + 1) _ (by omega) ⟨by simp; omega, fun p hp' => ?_⟩)) (fun _ => ih (i + 1) out (by omega) ho)) (fun _ => ih (i + 1) out (by omega) ho))))
   rcases List.mem_append.1 hp' with h7 | h7
   ·exact ho.2 p h7
   ·rw [List.mem_singleton.1 h7]
    exact ⟨ht.trans h5, by omega⟩
  ·rw [decide_eq_false h4]
   exact hend i out ho
theorem make_evp (p t m : ByteArray) (l : List ByteArray) (lb : Bool) (hp : p.size ≤ 100) (ht : t.size ≤ 100) (hm : m.size ≤ 9223372036854775807) (hl : l.length ≤ 9223372036854775807) (hs : ∀ p ∈ l, p.size ≤ 9223372036854775807) : EvP (fun k => r17_Make.f k p t m l lb) MakeOk := by
 refine evp_bind (good_evp p hp) (fun u hu => evp_get rfl (evp_bind (good_evp t ht) (fun v hv => evp_bind (EvP.of (refToken_ev m hm) rfl) (fun b hb => ?_))))
 have h1 : IsScheme u.1 ∧ VisN 200 u.2.1 ∧ 0 ≤ u.2.2.1 ∧ u.2.2.1 ≤ 65535 := ⟨hu.1, hu.2.1, hu.2.2.1, hu.2.2.2.1⟩
 have hnil : NamesOk [] := ⟨by simp, by simp⟩
 have hj : ∀ m' : ByteArray, Tok20 m' → EvP (fun k => r17_Make.j1 k l u.1 u.2.1 u.2.2.1 v.1 v.2.1 v.2.2.1 v.2.2.2.1 v.2.2.2.2 m' lb) MakeOk := fun m' hm' =>
  evp_step (fun k => r17_Make.j1.eq_2 ..) (make_loop l hl hs _ _ _ _ _ _ _ _ _ lb h1 hv hm' l.length 0 [] (by omega) hnil)
 have hput : Tok20 (⟨#[80, 85, 84]⟩ : ByteArray) := ⟨by decide +kernel, by decide⟩
 refine evp_ite (fun h => evp_step (fun k => r17_Make.j0.eq_2 ..) (evp_ite (fun _ => hj _ hput) (fun h6 => hj m ⟨hb.trans h, ?_⟩))) (fun _ => evp_step (fun k => r17_Make.j0.eq_2 ..) (evp_pos rfl (hj _ hput)))
 have h7 : decide ((m.size : Int) > 20) = false := by simpa using h6
 have := of_decide_eq_false h7
 omega
def sep3 : ByteArray := ⟨#[58, 47, 47]⟩
def restB (a b : ByteArray) (c : Int) : ByteArray := if c = portB a then b else b ++ ((⟨#[58]⟩ : ByteArray) ++ decS c.toNat)
def textB (a b : ByteArray) (c : Int) : ByteArray := a ++ sep3 ++ restB a b c
theorem urlPort_eq (s : ByteArray) : url_Port.f s = some (portB s) := by
 unfold url_Port.f portB
 split
 ·rfl
 ·split <;> rfl
theorem scheme_size (a : ByteArray) (h : IsScheme a) : a.size ≤ 5 ∧ 4 ≤ a.size := by
 rcases h with rfl | rfl
 ·exact ⟨by decide, by decide⟩
 ·exact ⟨by decide, by decide⟩
theorem dec_small21 (c : Int) (h0 : 0 ≤ c) (h1 : c ≤ 65535) : (decS c.toNat).size ≤ 21 := by
 have hp : (10 : Nat) ^ 19 * 10 = 100000000000000000000 := by decide
 exact decS_size _ (by omega)
theorem restB_ok (a b : ByteArray) (c : Int) (hb : VisN 200 b) (h0 : 0 ≤ c) (h1 : c ≤ 65535) : VisN 300 (restB a b c) := by
 have hb2 := hb.2
 have hd := dec_small21 c h0 h1
 have z1 : (⟨#[58]⟩ : ByteArray).size = 1 := rfl
 unfold restB
 split
 ·exact ⟨hb.1, by omega⟩
 ·exact ⟨hb.1.append ((vis_lit _ (by decide)).append (vis_decS _)), by rw [ByteArray.size_append, ByteArray.size_append]; omega⟩
theorem text_eq (a b : ByteArray) (c : Int) (ha : IsScheme a) (hb : VisN 200 b) (h0 : 0 ≤ c) (h1 : c ≤ 65535) : url_Text.f a b c = some (textB a b c) := by
 have h5 := (scheme_size a ha).1
 have hb2 := hb.2
 have hd := dec_small21 c h0 h1
 have z1 : (⟨#[58]⟩ : ByteArray).size = 1 := rfl
 have z3 : (⟨#[58, 47, 47]⟩ : ByteArray).size = 3 := rfl
 unfold url_Text.f textB restB
 rw [if_pos (by omega), if_pos (by rw [ByteArray.size_append]; omega), urlPort_eq]
 show (if c = portB a then _ else _) = _
 by_cases hc : c = portB a
 ·rw [if_pos hc, if_pos hc]
  rfl
 ·rw [if_neg hc, if_neg hc]
  have ht : text_Decimal.f c = some (decS c.toNat) := by
   unfold text_Decimal.f
   rw [if_pos (by omega)]
   have : Lib.itoa c = Lib.decDigits c.toNat := by unfold Lib.itoa; rw [if_neg (by omega)]
   rw [this]
   rfl
  rw [ht]
  show (if _ then (if _ then some _ else none) else none) = _
  rw [if_pos (by omega), if_pos (by simp only [ByteArray.size_append]; omega)]
  congr 1
  simp only [ByteArray.append_assoc]
  rfl
theorem refText_ev13 (a b : ByteArray) (c : Int) (ha : IsScheme a) (hb : VisN 200 b) (h0 : 0 ≤ c) (h1 : c ≤ 65535) : Ev (fun k => r13_Text.f k a b c) (textB a b c) := by
 have h5 := (scheme_size a ha).1
 have hb2 := hb.2
 have hd := dec_small21 c h0 h1
 have z1 : (⟨#[58]⟩ : ByteArray).size = 1 := rfl
 have z3 : (⟨#[58, 47, 47]⟩ : ByteArray).size = 3 := rfl
 unfold r13_Text.f textB restB
 refine ev_get (port_eq a) ?_
 by_cases hc : c = portB a
 ·rw [if_pos hc]
  exact ev_pos hc (ev_pos (by omega) (ev_pos (by rw [ByteArray.size_append]; omega) (ev_now rfl)))
 ·rw [if_neg hc]
  have hD := refDecimal_ev c.toNat (by omega)
  rw [Int.toNat_of_nonneg h0] at hD
  refine ev_neg hc (ev_pos (by omega) (ev_pos (by rw [ByteArray.size_append]; omega) (ev_pos (by simp only [ByteArray.size_append]; omega) (Ev.bind hD (ev_pos (by simp only [ByteArray.size_append]; omega) (ev_now ?_))))))
  simp only [ByteArray.append_assoc]
  rfl
theorem textB_ok (a b : ByteArray) (c : Int) (ha : IsScheme a) (hb : VisN 200 b) (h0 : 0 ≤ c) (h1 : c ≤ 65535) : VisN 400 (textB a b c) := by
 have hr := restB_ok a b c hb h0 h1
 have h5 := (scheme_size a ha).1
 have z3 : sep3.size = 3 := rfl
 refine ⟨(Vis.append ?_ (vis_lit _ (by decide))).append hr.1, ?_⟩
 ·rcases ha with rfl | rfl
  ·exact vis_lit _ (by decide)
  ·exact vis_lit _ (by decide)
 ·have := hr.2
  unfold textB
  rw [ByteArray.size_append, ByteArray.size_append]
  omega
theorem index_sep (p t : List UInt8) (hp : ∀ b ∈ p, b ≠ 58) : Lib.index (p ++ 58 :: 47 :: 47 :: t) [58, 47, 47] = (p.length : Int) := by
 refine Lib.index_first (by rw [List.length_append]; omega) ?_ (fun j hj => ?_)
 ·unfold Lib.occAt
  rw [List.drop_left]
  simp [List.isPrefixOf]
 ·by_cases c : Lib.occAt (p ++ 58 :: 47 :: 47 :: t) [58, 47, 47] j = true
  ·exfalso
   have h0 := Lib.occAt_head rfl c
   rw [List.getElem?_append_left hj] at h0
   exact hp 58 (List.mem_of_getElem? h0) rfl
  ·simpa using c
theorem host_eq (a b : ByteArray) (c : Int) (d e : ByteArray) (ha : IsScheme a) (hb : VisN 200 b) (h0 : 0 ≤ c) (h1 : c ≤ 65535) : preflight_Host.f a b c d e = some (restB a b c) := by
 have hz := (textB_ok a b c ha hb h0 h1).2
 unfold preflight_Host.f
 show ((url_Text.f a b c).bind fun t120 => _) = _
 rw [text_eq a b c ha hb h0 h1]
 show (strings_Cut.f (textB a b c) (⟨#[58, 47, 47]⟩ : ByteArray)).bind _ = _
 unfold strings_Cut.f
 rw [if_pos (by omega)]
 show some _ = some _
 congr 1
 have hd : (textB a b c).data.toList = a.data.toList ++ 58 :: 47 :: 47 :: (restB a b c).data.toList := by
  unfold textB sep3
  simp
 have hp : ∀ x ∈ a.data.toList, x ≠ 58 := by
  rcases ha with rfl | rfl
  ·decide
  ·decide
 have hi := index_sep a.data.toList (restB a b c).data.toList hp
 show (⟨(Lib.cut (textB a b c).data.toList [58, 47, 47]).2.1.toArray⟩ : ByteArray) = restB a b c
 have hcut : (Lib.cut (textB a b c).data.toList [58, 47, 47]).2.1 = (restB a b c).data.toList := by
  unfold Lib.cut
  rw [hd, hi]
  simp
  have hl : a.size = a.data.toList.length := (data_length a).symm
  rw [← List.drop_drop, hl, List.drop_left]
  rfl
 rw [hcut]
theorem refHost_ev17 (a b : ByteArray) (c : Int) (d e : ByteArray) (ha : IsScheme a) (hb : VisN 200 b) (h0 : 0 ≤ c) (h1 : c ≤ 65535) : Ev (fun k => r17_Host.f k a b c d e) (restB a b c) := by
 have hz := (textB_ok a b c ha hb h0 h1).2
 have h5 := (scheme_size a ha).1
 have z3 : sep3.size = 3 := rfl
 have e1 : wrap64 ((a.size : Int) + 3) = ((a.size + 3 : Nat) : Int) := by unfold wrap64; omega
 unfold r17_Host.f
 refine ev_get rfl (Ev.bind (refText_ev13 a b c ha hb h0 h1) ?_)
 rw [e1]
 have hs : (textB a b c).size = a.size + 3 + (restB a b c).size := by unfold textB; rw [ByteArray.size_append, ByteArray.size_append, z3]
 refine ev_pos (by omega) (ev_pos (by omega) (ev_now ?_))
 rw [Int.toNat_natCast, hs]
 unfold textB
 have hh : a.size + 3 = (a ++ sep3).size := by rw [ByteArray.size_append, z3]
 rw [hh]
 generalize a ++ sep3 = q
 apply ByteArray.ext
 apply Array.ext'
 rw [ByteArray.data_extract, Array.toList_extract, List.extract_eq_take_drop]
 have hl : (q ++ restB a b c).data.toList = q.data.toList ++ (restB a b c).data.toList := by simp
 rw [hl, List.drop_append_of_le_length (by rw [data_length]; exact Nat.le_refl _), List.drop_of_length_le (by rw [data_length]; exact Nat.le_refl _), List.nil_append, List.take_of_length_le]
 rw [data_length]
 omega
theorem has_loop17 (l : List ByteArray) (s : ByteArray) (hl : l.length ≤ 1000) (d : Nat) : ∀ i : Nat, i + d = l.length → Ev (fun k => r17_has.l0 k l s (i : Int)) (memB s (l.drop i)) := by
 induction d with
 | zero =>
  intro i hi
  rw [List.drop_of_length_le (by omega)]
  exact Ev.step (fun k => r17_has.l0.eq_2 ..) (ev_neg (by omega) (ev_now rfl))
 | succ d ih =>
  intro i hi
  have hlt : i < l.length := by omega
  have e : wrap64 ((i : Int) + 1) = ((i + 1 : Nat) : Int) := by unfold wrap64; omega
  refine Ev.step (fun k => r17_has.l0.eq_2 ..) (ev_pos (by omega) (ev_pos (by omega) ?_))
  rw [rdOf_at l i hlt, e, List.drop_eq_getElem_cons hlt]
  have hm : memB s (l[i] :: l.drop (i + 1)) = ((l[i].data.toList == s.data.toList) || memB s (l.drop (i + 1))) := rfl
  rw [hm]
  by_cases c : l[i].toList = s.toList
  ·rw [toList_eq, toList_eq] at c
   rw [c, beq_self_eq_true, Bool.true_or]
   refine ev_pos (by rw [toList_eq, toList_eq]; exact c) (ev_now rfl)
  ·have c2 : ¬ l[i].data.toList = s.data.toList := by rw [← toList_eq, ← toList_eq]; exact c
   rw [beq_eq_false_iff_ne.2 c2, Bool.false_or]
   exact ev_neg c (ih (i + 1) (by omega))
theorem has_ev17 (l : List ByteArray) (s : ByteArray) (hl : l.length ≤ 1000) : Ev (fun k => r17_has.f k l s) (memB s l) := by
 have := has_loop17 l s hl l.length 0 (by omega)
 rw [List.drop_zero] at this
 exact this
theorem onceB_ok : ∀ l : List ByteArray, (∀ p ∈ l, Tok20 p) → ∀ p ∈ onceB l [], ∃ q ∈ l, p = lowN q := by
 have key : ∀ (l out : List ByteArray), ∀ p ∈ onceB l out, p ∈ out ∨ ∃ q ∈ l, p = lowN q := by
  intro l
  induction l with
  | nil => intro out p hp; exact .inl hp
  | cons x l ih =>
   intro out p hp
   rcases ih _ p hp with h | ⟨q, hq, h⟩
   ·unfold addName at h
    split at h
    ·exact .inl h
    ·rcases List.mem_append.1 h with h | h
     ·exact .inl h
     ·exact .inr ⟨x, List.mem_cons_self, List.mem_singleton.1 h⟩
   ·exact .inr ⟨q, List.mem_cons_of_mem _ hq, h⟩
 intro l _ p hp
 rcases key l [] p hp with h | h
 ·cases h
 ·exact h
theorem lowB_vis (c : Int) (h : 33 ≤ c ∧ c ≤ 126) : 33 ≤ lowB c ∧ lowB c ≤ 126 := by unfold lowB; split <;> omega
theorem lowN_vis (s : ByteArray) (h : Vis s) : Vis (lowN s) := vis_strOf _ (fun x hx => by
 obtain ⟨c, hc, rfl⟩ := List.mem_map.1 hx
 exact lowB_vis c (h c hc))
theorem once_vis (l : List ByteArray) (h : NamesOk l) : (onceB l []).length ≤ 4 ∧ ∀ p ∈ onceB l [], VisN 20 p := by
 refine ⟨by have := onceB_length l []; have := h.1; simp at *; omega, fun p hp => ?_⟩
 obtain ⟨q, hq, rfl⟩ := onceB_ok l h.2 p hp
 exact ⟨lowN_vis q (tokB_vis q (h.2 q hq).1), by rw [lowN_size]; exact (h.2 q hq).2⟩
theorem addName_ne (out : List ByteArray) (s : ByteArray) : addName out s ≠ [] := by
 unfold addName
 split
 ·rename_i h
  intro e
  rw [e] at h
  exact absurd h (by simp [memB])
 ·simp
theorem onceB_pos (l : List ByteArray) : 0 < (onceB l []).length ↔ 0 < l.length := by
 have key : ∀ (l out : List ByteArray), out ≠ [] → onceB l out ≠ [] := by
  intro l
  induction l with
  | nil => intro out h; exact h
  | cons x l ih => intro out h; exact ih _ (addName_ne _ _)
 cases l with
 | nil => exact Iff.rfl
 | cons x l =>
  refine ⟨fun _ => by simp, fun _ => ?_⟩
  exact List.length_pos_iff.2 (key l _ (addName_ne _ _))
def nHost : ByteArray := ⟨#[72, 111, 115, 116]⟩
def nOrigin : ByteArray := ⟨#[79, 114, 105, 103, 105, 110]⟩
def nMeth : ByteArray := ⟨#[65, 99, 99, 101, 115, 115, 45, 67, 111, 110, 116, 114, 111, 108, 45, 82, 101, 113, 117, 101, 115, 116, 45, 77, 101, 116, 104, 111, 100]⟩
def nHeads : ByteArray := ⟨#[65, 99, 99, 101, 115, 115, 45, 67, 111, 110, 116, 114, 111, 108, 45, 82, 101, 113, 117, 101, 115, 116, 45, 72, 101, 97, 100, 101, 114, 115]⟩
def nNet : ByteArray := ⟨#[65, 99, 99, 101, 115, 115, 45, 67, 111, 110, 116, 114, 111, 108, 45, 82, 101, 113, 117, 101, 115, 116, 45, 80, 114, 105, 118, 97, 116, 101, 45, 78, 101, 116, 119, 111, 114, 107]⟩
def sTrue : ByteArray := ⟨#[116, 114, 117, 101]⟩
def sComma : ByteArray := ⟨#[44]⟩
def sOptions : ByteArray := ⟨#[79, 80, 84, 73, 79, 78, 83]⟩
def base3 (h o m : ByteArray) : List S25 := [⟨nHost, h⟩, ⟨nOrigin, o⟩, ⟨nMeth, m⟩]
def netL (lb : Bool) : List S25 := if lb = true then [⟨nNet, sTrue⟩] else []
def namesL (l : List ByteArray) : List S25 := if 0 < l.length then [⟨nHeads, joinS sComma (onceB l [])⟩] else []
def askL (h o m : ByteArray) (l : List ByteArray) (lb : Bool) : List S25 := base3 h o m ++ namesL l ++ netL lb
theorem headers_net (lb : Bool) (a b : ByteArray) (c : Int) (d e : ByteArray) (f : Int) (g h m : ByteArray) (l : List ByteArray) : ((preflight_lesser.f a b c d e f g h m l lb).bind fun t => preflight_headers.f [(⟨nNet, t⟩ : S90)]) = some (netL lb) := by
 cases lb with
 | true =>
  show preflight_headers.f [(⟨nNet, sTrue⟩ : S90)] = some [⟨nNet, sTrue⟩]
  unfold preflight_headers.f
  rw [if_pos (by simp)]
  simp [hdrs, toList_eq, sTrue]
 | false =>
  show preflight_headers.f [(⟨nNet, ⟨#[]⟩⟩ : S90)] = some []
  unfold preflight_headers.f
  rw [if_pos (by simp)]
  simp [hdrs, toList_eq]
theorem names_small (l : List ByteArray) (h : NamesOk l) : preflight_names.f l = some (onceB l []) := by
 unfold preflight_names.f
 rw [if_pos]
 refine ⟨by have := h.1; omega, List.all_eq_true.2 (fun p hp => decide_eq_true ?_)⟩
 have := (h.2 p hp).2
 omega
theorem join_small (l : List ByteArray) (h : NamesOk l) : strings_Join.f (onceB l []) sComma = some (joinS sComma (onceB l [])) := by
 unfold strings_Join.f
 have ho := once_vis l h
 rw [if_pos]
 refine ⟨by have := ho.1; omega, List.all_eq_true.2 (fun p hp => decide_eq_true ?_), by decide⟩
 have := (ho.2 p hp).2
 omega
theorem Request_eq (a b : ByteArray) (c : Int) (d e : ByteArray) (f : Int) (g h m : ByteArray) (l : List ByteArray) (lb : Bool)
  (h1 : IsScheme a ∧ VisN 200 b ∧ 0 ≤ c ∧ c ≤ 65535) (h2 : UrlOk d e f g h) (hl : NamesOk l) : preflight_Request.f a b c d e f g h m l lb = some (sOptions, g ++ h, askL (restB d e f) (textB a b c) m l lb) := by
 obtain ⟨d1, d2, d3, d4, d5, d6⟩ := h2
 have hg := d5.1.2
 have hh := d6.2
 unfold preflight_Request.f
 rw [host_eq d e f g h d1 d2 d3 d4]
 show ((url_Text.f a b c).bind fun t128 => _) = _
 rw [text_eq a b c h1.1 h1.2.1 h1.2.2.1 h1.2.2.2]
 show (if (l.length : Int) > 0 then _ else _) = _
 have hn := headers_net lb a b c d e f g h m l
 obtain ⟨t, ht1, ht2⟩ := Option.bind_eq_some_iff.1 hn
 unfold nNet at ht2
 have hnl : (netL lb).length ≤ 1 := by unfold netL; split <;> simp
 by_cases hc : (l.length : Int) > 0
 ·rw [if_pos hc, names_small l hl]
  show ((strings_Join.f (onceB l []) sComma).bind fun t135 => _) = _
  rw [join_small l hl]
  show (if (3 : Nat) < 4398046511104 then _ else none) = _
  rw [if_pos (by omega)]
  show (if g.size + h.size ≤ 9223372036854775807 then _ else none) = _
  rw [if_pos (by omega), ht1, Option.bind_some, ht2, Option.bind_some]
  show (if (4 : Nat) + (netL lb).length < 4398046511104 then _ else none) = _
  rw [if_pos (by omega)]
  unfold askL namesL
  rw [if_pos (by omega)]
  rfl
 ·rw [if_neg hc, if_pos (by omega), ht1, Option.bind_some, ht2, Option.bind_some]
  show (if (3 : Nat) + (netL lb).length < 4398046511104 then _ else none) = _
  rw [if_pos (by omega)]
  unfold askL namesL
  rw [if_neg (by omega), List.append_nil]
  rfl
theorem refReq_loop (x3 : List S25) (h3 : x3.length = 3) (a b : ByteArray) (c : Int) (d e : ByteArray) (f : Int) (g h m : ByteArray) (l : List ByteArray) (lb : Bool) (hg : g.size ≤ 200) (hh : h.size ≤ 200) (hl : NamesOk l) (q : Nat) : ∀ i : Nat, i + q = l.length →
  Ev (fun k => r17_Request.l0 k x3 (onceB (l.take i) []) (i : Int) a b c d e f g h m l lb) (sOptions, g ++ h, x3 ++ namesL l ++ netL lb) := by
 induction q with
 | zero =>
  intro i hi
  have ho := once_vis l hl
  have hp := onceB_pos l
  rw [List.take_of_length_le (by omega)]
  refine Ev.step (fun k => r17_Request.l0.eq_2 ..) (ev_neg (by omega) ?_)
  by_cases hc : 0 < l.length
  ·refine ev_pos (by have := hp.2 hc; omega) (Ev.bind (refJoin_ev (onceB l []) sComma (by have := ho.1; omega) 20 (by omega) (by decide) (fun p hp => (ho.2 p hp).2)) (ev_pos (by omega) (ev_get rfl ?_)))
   unfold namesL netL
   rw [if_pos hc]
   cases lb with
   | true => exact ev_pos rfl (ev_pos (by simp [h3]) (ev_pos (by omega) (ev_now rfl)))
   | false =>
    refine ev_neg (by decide) (ev_pos (by omega) (ev_now ?_))
    rw [if_neg (by decide), List.append_nil]
    rfl
  ·refine ev_neg (by have := mt hp.1 hc; omega) ?_
   unfold namesL netL
   rw [if_neg hc, List.append_nil]
   cases lb with
   | true => exact ev_pos rfl (ev_pos (by omega) (ev_pos (by omega) (ev_now rfl)))
   | false =>
    refine ev_neg (by decide) (ev_pos (by omega) (ev_now ?_))
    rw [if_neg (by decide), List.append_nil]
    rfl
 | succ q ih =>
  intro i hi
  have e1 : wrap64 ((i : Int) + 1) = ((i + 1 : Nat) : Int) := by have := hl.1; unfold wrap64; omega
  have hlt : i < l.length := by omega
  have hz := (hl.2 _ (List.getElem_mem hlt)).2
  have hk := ih (i + 1) (by omega)
  have hn : NamesOk (l.take i) := ⟨by rw [List.length_take]; have := hl.1; omega, fun p hp => hl.2 p (List.mem_of_mem_take hp)⟩
  have ho := (once_vis _ hn).1
  have htk : l.take (i + 1) = l.take i ++ [l[i]] := by rw [List.take_add_one, List.getElem?_eq_getElem hlt]; rfl
  rw [htk, onceB_snoc] at hk
  unfold addName at hk
  refine Ev.step (fun k => r17_Request.l0.eq_2 ..) (ev_pos (by omega) (ev_pos (by omega) ?_))
  rw [rdOf_at l i hlt, e1]
  refine Ev.bind (refLower_ev l[i] (by omega)) (Ev.bind (has_ev17 _ _ (by omega)) ?_)
  cases hm : memB (lowN l[i]) (onceB (l.take i) []) with
  | true =>
   rw [if_pos hm] at hk
   exact ev_pos rfl hk
  | false =>
   rw [if_neg (by rw [hm]; decide)] at hk
   exact ev_neg (by decide) (ev_pos (by omega) hk)
theorem refRequest_ev (a b : ByteArray) (c : Int) (d e : ByteArray) (f : Int) (g h m : ByteArray) (l : List ByteArray) (lb : Bool)
  (h1 : IsScheme a ∧ VisN 200 b ∧ 0 ≤ c ∧ c ≤ 65535) (h2 : UrlOk d e f g h) (hl : NamesOk l) : Ev (fun k => r17_Request.f k a b c d e f g h m l lb) (sOptions, g ++ h, askL (restB d e f) (textB a b c) m l lb) := by
 obtain ⟨d1, d2, d3, d4, d5, d6⟩ := h2
 unfold r17_Request.f
 exact Ev.bind (refHost_ev17 d e f g h d1 d2 d3 d4) (Ev.bind (refText_ev13 a b c h1.1 h1.2.1 h1.2.2.1 h1.2.2.2) (refReq_loop (base3 (restB d e f) (textB a b c) m) rfl a b c d e f g h m l lb d5.1.2 d6.2 hl l.length 0 (by omega)))
theorem vis_ok (s : ByteArray) (h : Vis s) : (bytesOf s).all okB = true := List.all_eq_true.2 (fun x hx => by
 have := h x hx
 unfold okB
 exact decide_eq_true (by omega))
theorem vis_bare (s : ByteArray) (h : Vis s) : bareB s = true := by
 have hb : ∀ b ∈ s.data.toList, blank8 b = false := by
  intro b hb
  have hm : ((b.toNat : Nat) : Int) ∈ bytesOf s := by unfold bytesOf; exact List.mem_map.2 ⟨b, hb, rfl⟩
  have hv := h _ hm
  unfold blank8
  simp only [List.contains_cons, List.contains_nil, Bool.or_false, Bool.or_eq_false_iff, beq_eq_false_iff_ne]
  refine ⟨fun e => ?_, fun e => ?_⟩
  ·rw [e] at hv; have : ((32 : UInt8).toNat : Int) = 32 := rfl; omega
  ·rw [e] at hv; have : ((9 : UInt8).toNat : Int) = 9 := rfl; omega
 have ht := trim_bare s.data.toList ⟨fun b hb2 => hb b (List.mem_of_getElem? hb2), fun b _ hb2 => hb b (List.mem_of_getElem? hb2)⟩
 unfold bareB trimB
 rw [ht]
 simp
theorem vis_header (n v : ByteArray) (hn : tokB n = true) (hv : Vis v) : headerB ⟨n, v⟩ = true := by
 unfold headerB
 rw [hn, vis_ok v hv, vis_bare v hv]
 rfl
theorem refPlain_vis (s : ByteArray) (hs : s.size ≤ 1000) (hv : Vis s) (d : Nat) : ∀ i : Nat, i + d = s.size → Ev (fun k => r01_Plain.l0 k s (i : Int)) true := by
 induction d with
 | zero =>
  intro i hi
  exact Ev.step (fun k => r01_Plain.l0.eq_2 ..) (ev_neg (by omega) (ev_now rfl))
 | succ d ih =>
  intro i hi
  have hb := hv.bt i (by omega)
  refine Ev.step (fun k => r01_Plain.l0.eq_2 ..) ?_
  rw [wrap_next1 i (by omega)]
  exact ev_pos (by omega) (ev_pos (by omega) (ev_neg (by omega) (ev_neg (by omega) (ih (i + 1) (by omega)))))
theorem refText14_ev (m p : ByteArray) (l : List S25) (hm : m.size ≤ 1000) (hp : p.size ≤ 1000) (hl : l.length ≤ 100) (hh : Hs l) : Ev (fun k => r14_Text.f k m p l) (m ++ (⟨#[32]⟩ : ByteArray) ++ p ++ (⟨#[32, 72, 84, 84, 80, 47, 49, 46, 49, 13, 10]⟩ : ByteArray) ++ (linesB l ++ crlf)) := by
 have hz := linesB_size l (hs_small l hh)
 have z1 : (⟨#[32]⟩ : ByteArray).size = 1 := rfl
 have z2 : (⟨#[32, 72, 84, 84, 80, 47, 49, 46, 49, 13, 10]⟩ : ByteArray).size = 11 := rfl
 have z4 : crlf.size = 2 := rfl
 unfold r14_Text.f
 exact ev_pos (by omega) (ev_pos (by rw [ByteArray.size_append]; omega) (ev_pos (by rw [ByteArray.size_append, ByteArray.size_append]; omega) (Ev.bind (refLines_ev l (by omega) hh) (ev_pos (by simp only [ByteArray.size_append]; omega) (ev_now rfl)))))
theorem rdHd_at (l : List S25) (i : Nat) (h : i < l.length) : rd_T25 l (i : Int) = l[i] := rdH_at l i h
theorem refMay_loop (m p : ByteArray) (l : List S25) (hm : m.size ≤ 1000) (hp : p.size ≤ 1000) (hl : l.length ≤ 64) (hh : Hs l) (ha : ∀ x ∈ l, headerB x = true) (h0 : 0 < p.size) (h47 : bt p 0 = 47) (hz : (m ++ (⟨#[32]⟩ : ByteArray) ++ p ++ (⟨#[32, 72, 84, 84, 80, 47, 49, 46, 49, 13, 10]⟩ : ByteArray) ++ (linesB l ++ crlf)).size ≤ 8192) (d : Nat) : ∀ i : Nat, i + d = l.length →
  Ev (fun k => r14_May.l0 k (i : Int) m p l) true := by
 induction d with
 | zero =>
  intro i hi
  exact Ev.step (fun k => r14_May.l0.eq_2 ..) (ev_neg (by omega) (ev_pos (by omega) (ev_pos h47 (Ev.bind (refText14_ev m p l hm hp (by omega) hh) (ev_now (decide_eq_true (by omega)))))))
 | succ d ih =>
  intro i hi
  have hlt : i < l.length := by omega
  have e : wrap64 ((i : Int) + 1) = ((i + 1 : Nat) : Int) := by unfold wrap64; omega
  have hs := hh _ (List.getElem_mem hlt)
  refine Ev.step (fun k => r14_May.l0.eq_2 ..) (ev_pos (by omega) (ev_pos (by omega) ?_))
  rw [rdHd_at l i hlt, e]
  have hr := refHeader_ev l[i] (by omega) (by omega)
  rw [ha _ (List.getElem_mem hlt)] at hr
  exact Ev.bind hr (ev_true (ih (i + 1) (by omega)))
theorem lines_size (n : Nat) : ∀ l : List S25, (∀ x ∈ l, x.f0.size + x.f1.size ≤ n) → (linesB l).size ≤ (n + 4) * l.length := by
 intro l
 induction l with
 | nil => intro _; exact Nat.zero_le _
 | cons x l ih =>
  intro h
  have hx := h x List.mem_cons_self
  have := ih (fun y hy => h y (List.mem_cons_of_mem _ hy))
  have z1 : (⟨#[58, 32]⟩ : ByteArray).size = 2 := rfl
  have z2 : (⟨#[13, 10]⟩ : ByteArray).size = 2 := rfl
  show (lineB x ++ linesB l).size ≤ _
  unfold lineB
  rw [List.length_cons, Nat.mul_add]
  simp only [ByteArray.size_append]
  omega
theorem ask_ok (h o m : ByteArray) (l : List ByteArray) (lb : Bool) (hh : VisN 400 h) (ho : VisN 400 o) (hm : Tok20 m) (hl : NamesOk l) : ∀ x ∈ askL h o m l lb, headerB x = true ∧ x.f0.size ≤ 50 ∧ x.f1.size ≤ 400 := by
 have h1 : ∀ n : ByteArray, tokB n = true → n.size ≤ 50 → ∀ v : ByteArray, VisN 400 v → headerB ⟨n, v⟩ = true ∧ n.size ≤ 50 ∧ v.size ≤ 400 := fun n hn hz v hv => ⟨vis_header n v hn hv.1, hz, hv.2⟩
 have ho2 := once_vis l hl
 have hj : VisN 400 (joinS sComma (onceB l [])) := by
  refine ⟨joinS_vis _ (vis_lit _ (by decide)) _ (fun p hp => (ho2.2 p hp).1), ?_⟩
  have := joinS_size sComma 20 (by decide) (onceB l []) (fun p hp => (ho2.2 p hp).2)
  omega
 intro x hx
 unfold askL base3 namesL netL at hx
 rw [List.mem_append, List.mem_append] at hx
 rcases hx with (hx | hx) | hx
 ·simp only [List.mem_cons, List.not_mem_nil, or_false] at hx
  rcases hx with rfl | rfl | rfl
  ·exact h1 nHost (by decide +kernel) (by decide) h hh
  ·exact h1 nOrigin (by decide +kernel) (by decide) o ho
  ·exact h1 nMeth (by decide +kernel) (by decide) m ⟨tokB_vis m hm.1, by have := hm.2; omega⟩
 ·split at hx
  ·rw [List.mem_singleton.1 hx]
   exact h1 nHeads (by decide +kernel) (by decide) _ hj
  ·cases hx
 ·split at hx
  ·rw [List.mem_singleton.1 hx]
   exact h1 nNet (by decide +kernel) (by decide) _ ⟨vis_lit _ (by decide), by decide⟩
  ·cases hx
theorem ask_length (h o m : ByteArray) (l : List ByteArray) (lb : Bool) : (askL h o m l lb).length ≤ 5 := by
 unfold askL base3 namesL netL
 rw [List.length_append, List.length_append]
 split <;> split <;> simp
theorem refMay_ask (p h o m : ByteArray) (l : List ByteArray) (lb : Bool) (hh : VisN 400 h) (ho : VisN 400 o) (hm : Tok20 m) (hl : NamesOk l) (hp : VisN 400 p) (h0 : 0 < p.size) (h47 : bt p 0 = 47) : Ev (fun k => r14_May.f k sOptions p (askL h o m l lb)) true := by
 have hk := ask_ok h o m l lb hh ho hm hl
 have h5 := ask_length h o m l lb
 have hp2 := hp.2
 have ht : Ev (fun k => r01_Token.f k sOptions) true := by
  have := refToken_ev sOptions (by decide)
  rwa [show ((bytesOf sOptions).all tokenB && decide (0 < sOptions.size)) = true from by decide +kernel] at this
 have hs : Hs (askL h o m l lb) := fun x hx => ⟨by have := (hk x hx).2.1; omega, by have := (hk x hx).2.2; omega⟩
 have hz := lines_size 450 (askL h o m l lb) (fun x hx => by have := hk x hx; omega)
 have z1 : (⟨#[32]⟩ : ByteArray).size = 1 := rfl
 have z2 : (⟨#[32, 72, 84, 84, 80, 47, 49, 46, 49, 13, 10]⟩ : ByteArray).size = 11 := rfl
 have z4 : crlf.size = 2 := rfl
 have z5 : sOptions.size = 7 := rfl
 unfold r14_May.f
 refine Ev.bind ht (Ev.bind (refPlain_vis p (by omega) hp.1 p.size 0 (by omega)) (ev_true (ev_true (ev_neg (by omega) ?_))))
 rw [decide_eq_false (by omega)]
 refine Ev.step (fun k => r14_May.j0.eq_2 ..) (ev_neg (by decide) (refMay_loop sOptions p _ (by omega) (by omega) (by omega) hs (fun x hx => (hk x hx).1) h0 h47 ?_ _ 0 (Nat.zero_add _)))
 simp only [ByteArray.size_append]
 omega
theorem same14_loop (l : List S25) (hl : l.length ≤ 1000) (d : Nat) : ∀ i : Nat, i + d = l.length → Ev (fun k => r14_Same.l0 k l l (i : Int)) true := by
 induction d with
 | zero =>
  intro i hi
  exact Ev.step (fun k => r14_Same.l0.eq_2 ..) (ev_neg (by omega) (ev_now rfl))
 | succ d ih =>
  intro i hi
  have e : wrap64 ((i : Int) + 1) = ((i + 1 : Nat) : Int) := by unfold wrap64; omega
  refine Ev.step (fun k => r14_Same.l0.eq_2 ..) (ev_pos (by omega) (ev_pos (by omega) (ev_pos (by omega) (ev_neg (by simp) ?_))))
  rw [e]
  exact ih (i + 1) (by omega)
theorem same14_ev (l : List S25) (hl : l.length ≤ 1000) : Ev (fun k => r14_Same.f k l l) true := ev_pos rfl (same14_loop l hl l.length 0 (by omega))
def few (s : ByteArray) (n : Nat) : ByteArray := if n < s.size then s.extract 0 n else s
theorem few_size (s : ByteArray) (n : Nat) : (few s n).size ≤ n := by
 unfold few
 split
 ·rw [ByteArray.size_extract]; omega
 ·omega
theorem Few_eq (s : ByteArray) (n : Nat) : r01_Few.f s (n : Int) = some (few s n) := by
 unfold r01_Few.f few
 by_cases h : n < s.size
 ·rw [if_pos (by omega), if_pos (by omega), if_pos (by omega), if_pos h, Int.toNat_natCast]
 ·rw [if_neg (by omega), if_neg h]
theorem simple_eq (m : ByteArray) : ∃ b, preflight_Simple.f m = some b ∧ r17_Simple.f m = some b := by
 unfold preflight_Simple.f r17_Simple.f
 split
 ·exact ⟨_, rfl, rfl⟩
 ·split
  ·exact ⟨_, rfl, rfl⟩
  ·exact ⟨_, rfl, rfl⟩
theorem lives17_eq : w17_lives.f = some true := by
 have hu : UrlOk sHttp (⟨#[97, 46, 116, 101, 115, 116]⟩ : ByteArray) 80 (⟨#[47]⟩ : ByteArray) (⟨#[]⟩ : ByteArray) := ⟨.inl rfl, ⟨vis_lit _ (by decide), by decide⟩, by omega, by omega, slash_path, ⟨vis_empty, by decide⟩⟩
 have ho : IsScheme sHttps ∧ VisN 200 (⟨#[98, 46, 116, 101, 115, 116]⟩ : ByteArray) ∧ (0 : Int) ≤ 443 ∧ (443 : Int) ≤ 65535 := ⟨.inr rfl, ⟨vis_lit _ (by decide), by decide⟩, by omega, by omega⟩
 have hr := Request_eq sHttps (⟨#[98, 46, 116, 101, 115, 116]⟩ : ByteArray) 443 sHttp (⟨#[97, 46, 116, 101, 115, 116]⟩ : ByteArray) 80 (⟨#[47]⟩ : ByteArray) (⟨#[]⟩ : ByteArray) (⟨#[71, 69, 84]⟩ : ByteArray) [] true ho hu ⟨by simp, by simp⟩
 unfold w17_lives.f
 unfold sHttp sHttps at hr
 rw [hr]
 show (if sOptions.toList = ([79, 80, 84, 73, 79, 78, 83] : List UInt8) then _ else _) = _
 rw [if_pos (by rw [toList_eq]; rfl)]
 rfl
theorem PreflightAsks_ev (p t m : ByteArray) (l : List ByteArray) (lb : Bool) (hm : m.size ≤ 9223372036854775807) (hl : l.length ≤ 9223372036854775807) (hs : ∀ p ∈ l, p.size ≤ 9223372036854775807) : Ev (fun k => w17_PreflightAsks.f k p t m l lb) true := by
 obtain ⟨r, hr, h1, h2, h3, h4⟩ := make_evp (few p 100) (few t 100) m l lb (few_size _ _) (few_size _ _) hm hl hs
 obtain ⟨b, hb1, hb2⟩ := simple_eq m
 obtain ⟨a, b', c, d, e, f, g, h, mm, nl, lb'⟩ := r
 dsimp only at h1 h2 h3 h4
 have hmade : Ev (fun k => w17_made.f k p t m l lb) (a, b', c, d, e, f, g, h, mm, nl, lb', a, b', c, d, e, f, g, h, mm, nl, lb') := by
  unfold w17_made.f
  exact ev_get (Few_eq p 100) (ev_get (Few_eq t 100) (Ev.bind hr (ev_now rfl)))
 have hq := Request_eq a b' c d e f g h mm nl lb' h1 h2 h4
 have hq2 := refRequest_ev a b' c d e f g h mm nl lb' h1 h2 h4
 have hu := h2
 obtain ⟨d1, d2, d3, d4, d5, d6⟩ := hu
 have hrest := restB_ok d e f d2 d3 d4
 have htext := textB_ok a b' c h1.1 h1.2.1 h1.2.2.1 h1.2.2.2
 have hrest4 : VisN 400 (restB d e f) := ⟨hrest.1, by have := hrest.2; omega⟩
 have hpath : VisN 400 (g ++ h) := ⟨d5.1.1.append d6.1, by rw [ByteArray.size_append]; have := d5.1.2; have := d6.2; omega⟩
 have hp0 : 0 < (g ++ h).size := by rw [ByteArray.size_append]; have := d5.2.1; omega
 have hp47 : bt (g ++ h) 0 = 47 := by
  rw [show (0 : Int) = ((0 : Nat) : Int) from rfl, bt_left g h 0 d5.2.1]
  exact d5.2.2
 have hmay := refMay_ask (g ++ h) (restB d e f) (textB a b' c) mm nl lb' hrest4 htext h3 h4 hpath hp0 hp47
 have hsame := same14_ev (askL (restB d e f) (textB a b' c) mm nl lb') (by have := ask_length (restB d e f) (textB a b' c) mm nl lb'; omega)
 unfold w17_PreflightAsks.f
 refine Ev.bind hmade (ev_get hq (Ev.bind hq2 (Ev.bind hmay (ev_pos rfl (ev_pos rfl (Ev.bind hsame (ev_true (ev_true (ev_get (host_eq d e f g h d1 d2 d3 d4) (Ev.bind (refHost_ev17 d e f g h d1 d2 d3 d4) (ev_pos rfl (ev_get hb1 (ev_get hb2 (ev_pos (by simp) (ev_get lives17_eq (ev_now rfl))))))))))))))))
end Go.Proofs.YthjhbhgfckaklaaDoor.P
end
section
namespace Go.Proofs.YthjhbhgfckaklaaDoor.Pure
open Go.RowKit Go.Proofs.YthjhbhgfckaklaaDoor.P Go.Proofs.YthjhbhgfckaklaaDoorW.PrintWords
theorem PreflightAsks : Go.Proofs.YthjhbhgfckaklaaDoor.P.w17_PreflightAsks.Pure := by
 intro s0 h
 exact (PreflightAsks_ev s0.f0 s0.f1 s0.f2 s0.f3 s0.f4 h.2.2.1 h.2.2.2.1.1 h.2.2.2.1.2).rounds
end Go.Proofs.YthjhbhgfckaklaaDoor.Pure
end
