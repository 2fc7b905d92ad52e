/-
  Plain law: addresses of the web: what Good answers.
-/
import Derived.Test.YthjhbhgfckaklaaDoorGoB
import Derived.Test.YthjhbhgfckaklaaDoorNam
import Derived.Test.YthjhbhgfckaklaaDoorM2
import Derived.Test.YthjhbhgfckaklaaDoorM3
import Derived.Test.YthjhbhgfckaklaaDoorM5
namespace Go.Proofs.YthjhbhgfckaklaaDoor.P
open Go.RowKit Go.Proofs.YthjhbhgfckaklaaDoorW.PrintWords Go.Proofs.YthjhbhgfckaklaaDoorW.PrintLast Go.Proofs.YthjhbhgfckaklaaDoorW.PrintMore
set_option linter.unusedVariables false
set_option linter.unusedSimpArgs false
theorem lowN_size (s : ByteArray) : (lowN s).size = s.size := by unfold lowN; rw [size_strOf, List.length_map, bytesOf_length]
theorem refLower_loop (s : ByteArray) (hs : s.size ≤ 140737488352000) (d : Nat) : ∀ i : Nat, i + d = s.size →
  Ev (fun k => r01_Lower.l0 k s (((bytesOf s).take i).map lowB) (i : Int)) (lowN s) := by
 have hN : ∀ q m : Nat, q ≤ 140737488352000 → m ≤ q → m < 140737488355328 := fun q m h1 h2 => Nat.lt_of_le_of_lt (Nat.le_trans h2 h1) (by decide)
 induction d with
 | zero =>
  intro i hi
  have hi2 : i = s.size := by omega
  subst hi2
  have hall : (bytesOf s).take s.size = bytesOf s := by rw [← bytesOf_length s, List.take_length]
  rw [hall]
  exact Ev.step (fun k => r01_Lower.l0.eq_2 ..) (ev_neg (by omega) (ev_now rfl))
 | succ d ih =>
  intro i hi
  have e : wrap64 ((i : Int) + 1) = ((i + 1 : Nat) : Int) := by unfold wrap64; omega
  have hlen : (((bytesOf s).take i).map lowB).length < 140737488355328 := by
   rw [List.length_map]
   exact hN s.size _ hs (by rw [List.length_take, bytesOf_length]; omega)
  have htake : ((bytesOf s).take (i + 1)).map lowB = ((bytesOf s).take i).map lowB ++ [lowB (bt s i)] := by
   rw [bytesOf_take s i (by omega), List.map_append]; rfl
  have hk := ih (i + 1) (by omega)
  rw [htake] at hk
  have hr := bt_range s i
  refine Ev.step (fun k => r01_Lower.l0.eq_2 ..) (ev_pos (by omega) (ev_pos (by omega) ?_))
  rw [e]
  by_cases h65 : bt s i ≥ 65
  ·refine ev_pos h65 ?_
   by_cases h90 : bt s i ≤ 90
   ·have el : lowB (bt s i) = (bt s i + 32) % 256 := by unfold lowB; rw [if_pos (by omega)]; omega
    rw [el] at hk
    exact ev_pos h90 (ev_pos hlen hk)
   ·have el : lowB (bt s i) = bt s i := by unfold lowB; rw [if_neg (by omega)]
    rw [el] at hk
    exact ev_neg h90 (ev_pos hlen hk)
  ·have el : lowB (bt s i) = bt s i := by unfold lowB; rw [if_neg (by omega)]
   rw [el] at hk
   exact ev_neg h65 (ev_pos hlen hk)
theorem refLower_ev (s : ByteArray) (hs : s.size ≤ 140737488352000) : Ev (fun k => r01_Lower.f k s) (lowN s) := refLower_loop s hs s.size 0 (by omega)
theorem size08_loop (x0 : List ByteArray) (hl : x0.length ≤ 1001) (d : Nat) : ∀ (i : Nat) (n : Int), i + d = x0.length → EvP (fun k => r08_size.l0 k x0 n (i : Int)) (fun _ => True) := by
 induction d with
 | zero =>
  intro i n hi
  exact evp_step (fun k => r08_size.l0.eq_2 ..) (evp_neg (by omega) (evp_now trivial))
 | succ d ih =>
  intro i n hi
  refine evp_step (fun k => r08_size.l0.eq_2 ..) ?_
  rw [wrap_next1 i (by omega)]
  exact evp_pos (by omega) (evp_pos (by omega) (ih (i + 1) _ (by omega)))
theorem may08_loop (x3 : List ByteArray) (hl : x3.length ≤ 1001) (d : Nat) : ∀ (i : Nat), i + d = x3.length → EvP (fun k => r08_May.l0 k x3 (i : Int)) (fun _ => True) := by
 induction d with
 | zero =>
  intro i hi
  exact evp_step (fun k => r08_May.l0.eq_2 ..) (evp_neg (by omega) (evp_bind (size08_loop x3 hl x3.length 0 1 (by omega)) (fun _ _ => evp_now trivial)))
 | succ d ih =>
  intro i hi
  refine evp_step (fun k => r08_May.l0.eq_2 ..) ?_
  rw [wrap_next1 i (by omega)]
  exact evp_pos (by omega) (evp_pos (by omega) (evp_ite (fun _ => evp_now trivial) (fun _ => evp_ite (fun _ => evp_now trivial) (fun _ => ih (i + 1) (by omega)))))
theorem may08_evp (s : ByteArray) (hs : s.size ≤ 1000) : EvP (fun k => r08_May.f k s) (fun _ => True) := by
 have hl : EvP (fun k => r08_Labels.f k s) (fun l => l.length ≤ 1001) := evp_ite (fun _ => evp_now (by simp)) (fun _ => evp_bind (split_evp s 46 1000 hs (by omega)) (fun t ht => evp_now ht.2.1))
 exact evp_bind hl (fun l h => may08_loop l h l.length 0 (by omega))
theorem wrap_predS (n : Nat) (h0 : 2 ≤ n) (h : n ≤ 100000) : wrap64 ((n : Int) - 1) = ((n - 1 : Nat) : Int) := wrap_pred n (by omega) h
theorem brack_evp (s : ByteArray) (hs : s.size ≤ 1000) : EvP (fun k => r13_bracketed.f k s) G8 := by
 have hz : G8 (0, 0, 0, 0, 0, 0, 0, 0, false) := by
  have h : U16 0 := ⟨by omega, by omega⟩
  exact ⟨h, h, h, h, h, h, h, h⟩
 refine evp_ite (fun _ => evp_now hz) (fun h => evp_pos (by omega) (evp_ite (fun _ => ?_) (fun _ => evp_now hz)))
 rw [wrap_predS _ (by omega) (by omega)]
 exact evp_pos (by omega) (evp_pos (by omega) (evp_ite (fun _ => evp_pos (by omega) (evp_pos (by omega) (evp_bind (parse03_evp _ (extract_size s _ _ 1000 hs)) (fun r hr => evp_now hr)))) (fun _ => evp_now hz)))
def HostOk (r : ByteArray × Bool) : Prop := r.2 = true → VisN 200 r.1
theorem host_no (s : ByteArray) : HostOk (s, false) := fun h => by cases h
theorem host_loop (s : ByteArray) (hs : s.size ≤ 100) (d : Nat) : ∀ (i : Nat), i + d = s.size → (∀ j : Nat, j < i → 33 ≤ bt s j ∧ bt s j ≤ 126) → EvP (fun k => r13_Host.l0 k s (i : Int)) HostOk := by
 induction d with
 | zero =>
  intro i hi hv
  refine evp_step (fun k => r13_Host.l0.eq_2 ..) (evp_neg (by omega) (evp_bind (loose_evp s (by omega)) (fun r hr => evp_ite (fun h2 => evp_bind (print02_evp _ (hr h2).1 (hr h2).2) (fun t ht => evp_now (fun _ => ⟨ht.1, by have := ht.2; show t.size ≤ 200; omega⟩))) (fun _ => evp_bind (may08_evp s (by omega)) (fun b _ => evp_ite (fun _ => evp_ite (fun _ => evp_ite (fun _ => evp_now (host_no _)) (fun _ => evp_now (fun _ => ⟨show Vis s from vis_of_bt (fun j hj => hv j (by omega)), by show s.size ≤ 200; omega⟩))) (fun _ => evp_now (host_no _))) (fun _ => evp_now (host_no _)))))))
 | succ d ih =>
  intro i hi hv
  refine evp_step (fun k => r13_Host.l0.eq_2 ..) ?_
  rw [wrap_next1 i (by omega)]
  have hn : 33 ≤ bt s i ∧ bt s i ≤ 126 → EvP (fun k => r13_Host.l0 k s ((i + 1 : Nat) : Int)) HostOk := fun h => ih (i + 1) (by omega) (fun j hj => by
   by_cases e : j = i
   ·rw [e]; exact h
   ·exact hv j (by omega))
  generalize bt s i = c at hn
  have hno : EvP (fun _ => some ((⟨#[]⟩ : ByteArray), false)) HostOk := evp_now (host_no _)
  have hmarks : EvP (fun k => if c = 45 then r13_Host.l0 k s ((i + 1 : Nat) : Int) else if c = 95 then r13_Host.l0 k s ((i + 1 : Nat) : Int) else if c = 46 then r13_Host.l0 k s ((i + 1 : Nat) : Int) else some ((⟨#[]⟩ : ByteArray), false)) HostOk :=
   evp_ite (fun h => hn (by omega)) (fun _ => evp_ite (fun h => hn (by omega)) (fun _ => evp_ite (fun h => hn (by omega)) (fun _ => hno)))
  refine evp_pos (by omega) (evp_pos (by omega) (evp_ite (fun h1 => evp_ite (fun h2 => hn (by omega)) (fun _ => evp_ite (fun h3 => evp_ite (fun h4 => hn (by omega)) (fun _ => hmarks)) (fun _ => hmarks))) (fun _ => evp_ite (fun h3 => evp_ite (fun h4 => hn (by omega)) (fun _ => hmarks)) (fun _ => hmarks))))
theorem host_evp (s : ByteArray) (hs : s.size ≤ 100) : EvP (fun k => r13_Host.f k s) HostOk := by
 refine evp_bind (brack_evp s (by omega)) (fun r hr => evp_ite (fun _ => ?_) (fun _ => ?_))
 ·obtain ⟨h1, h2, h3, h4, h5, h6, h7, h8⟩ := hr
  have z1 : (⟨#[91]⟩ : ByteArray).size = 1 := rfl
  have z2 : (⟨#[93]⟩ : ByteArray).size = 1 := rfl
  refine evp_bind (print03_evp _ _ _ _ _ _ _ _ h1 h2 h3 h4 h5 h6 h7 h8) (fun t ht => ?_)
  have := ht.2
  refine evp_pos (by omega) (evp_pos (by rw [ByteArray.size_append]; omega) (evp_now (fun _ => ⟨((vis_lit _ (by decide)).append ht.1).append (vis_lit _ (by decide)), ?_⟩)))
  show (((⟨#[91]⟩ : ByteArray) ++ t) ++ (⟨#[93]⟩ : ByteArray)).size ≤ 200
  rw [ByteArray.size_append, ByteArray.size_append]
  omega
 ·exact evp_bind (EvP.of (refLower_ev s (by omega)) rfl) (fun t ht => by
   subst ht
   exact host_loop (lowN s) (by rw [lowN_size]; exact hs) (lowN s).size 0 (by omega) (fun j hj => by omega))
def sHttp : ByteArray := ⟨#[104, 116, 116, 112]⟩
def sHttps : ByteArray := ⟨#[104, 116, 116, 112, 115]⟩
def IsScheme (s : ByteArray) : Prop := s = sHttp ∨ s = sHttps
def portB (s : ByteArray) : Int := if s.toList = ([104, 116, 116, 112] : List UInt8) then 80 else if s.toList = ([104, 116, 116, 112, 115] : List UInt8) then 443 else 0
theorem port_eq (s : ByteArray) : r13_Port.f s = some (portB s) := by
 unfold r13_Port.f portB
 split
 ·rfl
 ·split <;> rfl
theorem http_list : sHttp.toList = ([104, 116, 116, 112] : List UInt8) := by rw [toList_eq]; rfl
theorem https_list : sHttps.toList = ([104, 116, 116, 112, 115] : List UInt8) := by rw [toList_eq]; rfl
theorem port_pos (s : ByteArray) (h : portB s > 0) : IsScheme s := by
 unfold portB at h
 split at h
 ·rename_i e; exact .inl (toList_inj.1 (e.trans http_list.symm))
 ·split at h
  ·rename_i e; exact .inr (toList_inj.1 (e.trans https_list.symm))
  ·omega
def SchemeOk (n : Nat) (r : ByteArray × Int) : Prop := r.2 = 0 ∨ (IsScheme r.1 ∧ 0 < r.2 ∧ r.2 ≤ (n : Int))
theorem scheme_loop (s : ByteArray) (hs : s.size ≤ 1000) (d : Nat) : ∀ (i : Nat), i + d = 6 → EvP (fun k => r13_scheme.l0 k s (i : Int)) (SchemeOk s.size) := by
 induction d with
 | zero =>
  intro i hi
  exact evp_step (fun k => r13_scheme.l0.eq_2 ..) (evp_neg (by omega) (evp_step (fun k => r13_scheme.j1.eq_2 ..) (evp_neg (by decide) (evp_now (.inl rfl)))))
 | succ d ih =>
  intro i hi
  have e3 : wrap64 ((i : Int) + 3) = ((i + 3 : Nat) : Int) := by unfold wrap64; omega
  refine evp_step (fun k => r13_scheme.l0.eq_2 ..) (evp_pos (by omega) (evp_step (fun k => r13_scheme.j1.eq_2 ..) ?_))
  rw [e3, wrap_next1 i (by omega)]
  refine evp_ite (fun h => ?_) (fun _ => evp_now (.inl rfl))
  have hle := of_decide_eq_true h
  refine evp_pos (by omega) (evp_pos (by omega) (evp_bind (EvP.of (refLower_ev _ (by rw [ByteArray.size_extract]; omega)) rfl) (fun t _ => evp_get (port_eq t) (evp_ite (fun hp => evp_pos (by omega) (evp_pos (by omega) (evp_ite (fun _ => evp_now (.inr ⟨port_pos t hp, ?_, ?_⟩)) (fun _ => ih (i + 1) (by omega))))) (fun _ => ih (i + 1) (by omega))))))
  ·show (0 : Int) < ((i + 3 : Nat) : Int); omega
  ·exact hle
theorem scheme_evp (s : ByteArray) (hs : s.size ≤ 1000) : EvP (fun k => r13_scheme.f k s) (SchemeOk s.size) := scheme_loop s hs 2 4 (by omega)
def hasB (g : ByteArray) (c : Int) : Bool := (bytesOf g).any (· == c)
theorem hasB_loop (s : ByteArray) (hs : s.size ≤ 1000) (c : Int) (d : Nat) : ∀ i : Nat, i + d = s.size → Ev (fun k => r01_Has.l0 k s c (i : Int)) (((bytesOf s).drop i).any (· == c)) := by
 induction d with
 | zero =>
  intro i hi
  rw [List.drop_of_length_le (by rw [bytesOf_length]; omega)]
  exact Ev.step (fun k => r01_Has.l0.eq_2 ..) (ev_neg (by omega) (ev_now rfl))
 | succ d ih =>
  intro i hi
  have e : wrap64 ((i : Int) + 1) = ((i + 1 : Nat) : Int) := by unfold wrap64; omega
  refine Ev.step (fun k => r01_Has.l0.eq_2 ..) (ev_pos (by omega) (ev_pos (by omega) ?_))
  rw [e, bytesOf_drop s i (by omega), List.any_cons]
  by_cases a : bt s i = c
  ·rw [a, beq_self_eq_true, Bool.true_or]
   exact ev_pos rfl (ev_now rfl)
  ·rw [beq_eq_false_iff_ne.2 a, Bool.false_or]
   exact ev_neg a (ih (i + 1) (by omega))
theorem hasB_ev (s : ByteArray) (hs : s.size ≤ 1000) (c : Int) : Ev (fun k => r01_Has.f k s c) (hasB s c) := by
 have := hasB_loop s hs c s.size 0 (by omega)
 rw [List.drop_zero] at this
 exact this
def FirstOk (s g : ByteArray) (i : Nat) (r : Int) : Prop := (i : Int) ≤ r ∧ r ≤ (s.size : Int) ∧ (r < (s.size : Int) → hasB g (bt s r) = true) ∧ (i < s.size → hasB g (bt s (i : Int)) = true → r = (i : Int))
theorem first_loop (s g : ByteArray) (hs : s.size ≤ 1000) (hg : g.size ≤ 1000) (d : Nat) : ∀ (i : Nat), i + d = s.size → EvP (fun k => r13_first.l0 k s g (i : Int)) (FirstOk s g i) := by
 induction d with
 | zero =>
  intro i hi
  exact evp_step (fun k => r13_first.l0.eq_2 ..) (evp_neg (by omega) (evp_now ⟨by omega, by omega, fun h => by omega, fun h => by omega⟩))
 | succ d ih =>
  intro i hi
  refine evp_step (fun k => r13_first.l0.eq_2 ..) ?_
  rw [wrap_next1 i (by omega)]
  refine evp_pos (by omega) (evp_pos (by omega) (evp_bind (EvP.of (hasB_ev g hg _) rfl) (fun b hb => evp_ite (fun h => evp_now ⟨by omega, by omega, fun _ => by rw [← h, hb], fun _ _ => rfl⟩) (fun h => (ih (i + 1) (by omega)).imp (fun r hr => ⟨by have := hr.1; omega, hr.2.1, hr.2.2.1, fun _ h2 => ?_⟩)))))
  rw [hb] at h2
  exact absurd h2 h
theorem first_evp (s g : ByteArray) (hs : s.size ≤ 1000) (hg : g.size ≤ 1000) (i : Nat) (hi : i ≤ s.size) : EvP (fun k => r13_first.f k s (i : Int) g) (FirstOk s g i) := first_loop s g hs hg (s.size - i) i (by omega)
def PathOk (p : ByteArray) : Prop := VisN 200 p ∧ 0 < p.size ∧ bt p 0 = 47
def UrlOk (a b : ByteArray) (c : Int) (d e : ByteArray) : Prop := IsScheme a ∧ VisN 200 b ∧ 0 ≤ c ∧ c ≤ 65535 ∧ PathOk d ∧ VisN 200 e
def ParseOk (r : ByteArray × ByteArray × Int × ByteArray × ByteArray × Int) : Prop := r.2.2.2.2.2 = 0 → UrlOk r.1 r.2.1 r.2.2.1 r.2.2.2.1 r.2.2.2.2.1
theorem parse_no (a b : ByteArray) (c : Int) (d e : ByteArray) (n : Int) (h : n ≠ 0) : ParseOk (a, b, c, d, e, n) := fun h2 => absurd h2 h
theorem mn_both (a b : Int) : mn a b ≤ a ∧ mn a b ≤ b ∧ (mn a b = a ∨ mn a b = b) := by unfold mn; split <;> omega
theorem bt_extract (s : ByteArray) (a b : Nat) (h : a < b) (hb : b ≤ s.size) : bt (s.extract a b) 0 = bt s a := by
 have h1 : 0 < (s.extract a b).size := by rw [ByteArray.size_extract]; omega
 have e1 := bt_get (s.extract a b) 0 h1
 have e2 := bt_get s a (by omega)
 rw [show ((0 : Nat) : Int) = 0 from rfl] at e1
 rw [e1, e2]
 congr 2
 rw [ByteArray.getElem_extract]
 simp
theorem slash_path : PathOk (⟨#[47]⟩ : ByteArray) := ⟨⟨vis_lit _ (by decide), by decide⟩, by decide, by decide⟩
theorem parse_j3 (s : ByteArray) (hs : s.size ≤ 100) (hv : Vis s) (e : Nat) (he : e ≤ s.size) (h0 : e < s.size → hasB (⟨#[47, 63, 35]⟩ : ByteArray) (bt s (e : Int)) = true) (x9 : ByteArray) (h9 : x9.size ≤ 100) (a b : ByteArray) (c : Int) (d q : ByteArray) (ha : IsScheme a) (hc0 : 0 ≤ c) (hc1 : c ≤ 65535) :
  EvP (fun k => r13_Parse.j3 k s (e : Int) x9 a b c d q) ParseOk := by
 refine evp_step (fun k => r13_Parse.j3.eq_2 ..) (evp_bind (host_evp x9 h9) (fun r hr => evp_ite (fun h => ?_) (fun _ => evp_now (parse_no _ _ _ _ _ 2 (by decide)))))
 refine evp_bind (first_evp s (⟨#[35]⟩ : ByteArray) (by omega) (by decide) e he) (fun t ht => evp_bind (first_evp s (⟨#[63]⟩ : ByteArray) (by omega) (by decide) e he) (fun u hu => ?_))
 obtain ⟨m1, m2, m3⟩ := mn_both u t
 obtain ⟨t1, t2, t3, t4⟩ := ht
 obtain ⟨u1, u2, u3, u4⟩ := hu
 have hm : (e : Int) ≤ mn u t := by rcases m3 with h | h <;> omega
 have hq : VisN 200 (s.extract ((mn u t : Int).toNat) ((t : Int).toNat)) := ⟨hv.extract _ _, by rw [ByteArray.size_extract]; omega⟩
 refine evp_pos (by omega) (evp_pos hm (evp_pos (by omega) (evp_pos (by omega) (evp_pos m2 (evp_pos t2 (evp_ite (fun _ => evp_now (fun _ => ⟨ha, hr h, hc0, hc1, slash_path, hq⟩)) (fun hne => evp_now (fun _ => ⟨ha, hr h, hc0, hc1, ⟨⟨hv.extract _ _, ?_⟩, ?_, ?_⟩, hq⟩))))))))
 ·rw [ByteArray.size_extract]; omega
 all_goals
  have hlt : (e : Int) < mn u t := by
   rcases Int.lt_or_le (e : Int) (mn u t) with h | h
   ·exact h
   ·exfalso
    apply hne
    have hz : (s.extract ((e : Int).toNat) ((mn u t : Int).toNat)).size = 0 := by rw [ByteArray.size_extract]; omega
    have := toList_nil (s.extract ((e : Int).toNat) ((mn u t : Int).toNat))
    rw [decide_eq_true hz] at this
    exact eq_of_beq this
 ·show 0 < (s.extract ((e : Int).toNat) ((mn u t : Int).toNat)).size
  rw [ByteArray.size_extract]; omega
 ·have hb := bt_extract s e (mn u t).toNat (by omega) (by omega)
  show bt (s.extract ((e : Int).toNat) ((mn u t : Int).toNat)) 0 = 47
  rw [Int.toNat_natCast, hb]
  have h3 := h0 (by omega)
  have h35 : bt s (e : Int) ≠ 35 := fun h => by
   have := t4 (by omega) (by rw [h]; decide)
   omega
  have h63 : bt s (e : Int) ≠ 63 := fun h => by
   have := u4 (by omega) (by rw [h]; decide)
   omega
  have e3 : bytesOf (⟨#[47, 63, 35]⟩ : ByteArray) = [47, 63, 35] := by decide
  unfold hasB at h3
  rw [e3] at h3
  simp only [List.any_cons, List.any_nil, Bool.or_false, Bool.or_eq_true, beq_iff_eq] at h3
  omega
theorem parse_j2 (s : ByteArray) (hs : s.size ≤ 100) (hv : Vis s) (e : Nat) (he : e ≤ s.size) (h0 : e < s.size → hasB (⟨#[47, 63, 35]⟩ : ByteArray) (bt s (e : Int)) = true) (x9 : ByteArray) (h9 : x9.size ≤ 100) (x10 : Int) (hx0 : 0 ≤ x10) (hx1 : x10 ≤ (x9.size : Int)) (x12 : ByteArray) (x13 : Int) (bb : Bool) (hb : bb = false → (x12.toList = ([] : List UInt8) ∨ (0 ≤ x13 ∧ x13 ≤ 65535))) (a b : ByteArray) (c : Int) (d q : ByteArray) (ha : IsScheme a) (hc0 : 0 ≤ c) (hc1 : c ≤ 65535) :
  EvP (fun k => r13_Parse.j2 k s (e : Int) x9 x10 x12 x13 bb a b c d q) ParseOk := by
 have hz : (x9.extract 0 (x10 : Int).toNat).size ≤ 100 := by rw [ByteArray.size_extract]; omega
 refine evp_step (fun k => r13_Parse.j2.eq_2 ..) (evp_ite (fun _ => evp_now (parse_no _ _ _ _ _ 2 (by decide))) (fun h => evp_ite (fun _ => evp_pos hx0 (evp_pos hx1 (parse_j3 s hs hv e he h0 _ hz a b c d q ha hc0 hc1))) (fun hne => evp_pos hx0 (evp_pos hx1 ?_))))
 have hbf : bb = false := by cases bb with
  | true => exact absurd rfl h
  | false => rfl
 rcases hb hbf with h2 | ⟨h2, h3⟩
 ·exact absurd h2 hne
 ·exact parse_j3 s hs hv e he h0 _ hz a b x13 d q ha h2 h3
theorem parse_l0 (s : ByteArray) (hs : s.size ≤ 100) (hv : Vis s) (e : Nat) (he : e ≤ s.size) (h0 : e < s.size → hasB (⟨#[47, 63, 35]⟩ : ByteArray) (bt s (e : Int)) = true) (x9 : ByteArray) (h9 : x9.size ≤ 100) (a b : ByteArray) (c : Int) (d q : ByteArray) (ha : IsScheme a) (hc0 : 0 ≤ c) (hc1 : c ≤ 65535) (m : Nat) :
  ∀ (i : Nat) (x10 : Int), i + m = x9.size → x10 < (i : Int) → -1 ≤ x10 → EvP (fun k => r13_Parse.l0 k s (e : Int) x9 x10 (i : Int) a b c d q) ParseOk := by
 induction m with
 | zero =>
  intro i x10 hi hlt hge
  refine evp_step (fun k => r13_Parse.l0.eq_2 ..) (evp_neg (by omega) (evp_ite (fun hp => ?_) (fun _ => parse_j3 s hs hv e he h0 x9 h9 a b c d q ha hc0 hc1)))
  have e1 : wrap64 (x10 + 1) = x10 + 1 := wrap_small _ (by omega) (by omega)
  rw [e1]
  have hz : (x9.extract (x10 + 1 : Int).toNat x9.size).size ≤ 1000 := by rw [ByteArray.size_extract]; omega
  generalize x9.extract (x10 + 1 : Int).toNat x9.size = y at hz
  have hj := fun (v : Int) (bb : Bool) hb => parse_j2 s hs hv e he h0 x9 h9 x10 hp (by omega) y v bb hb a b c d q ha hc0 hc1
  refine evp_pos (by omega) (evp_pos (by omega) (evp_bind (number_evp y 10 (by omega) (by omega) hz) (fun r hr => evp_ite (fun hn => hj _ _ (fun _ => .inl hn)) (fun _ => evp_ite (fun _ => evp_ite (fun _ => hj _ _ (fun h => by cases h)) (fun _ => hj _ _ (fun h => .inr ⟨hr.1, by have := of_decide_eq_false h; omega⟩))) (fun _ => hj _ _ (fun h => by cases h))))))
 | succ m ih =>
  intro i x10 hi hlt hge
  refine evp_step (fun k => r13_Parse.l0.eq_2 ..) ?_
  rw [wrap_next1 i (by omega)]
  have n1 : ∀ x : Int, x ≤ (i : Int) → -1 ≤ x → EvP (fun k => r13_Parse.l0 k s (e : Int) x9 x ((i + 1 : Nat) : Int) a b c d q) ParseOk := fun x h1 h2 => ih (i + 1) x (by omega) (by omega) h2
  refine evp_pos (by omega) (evp_pos (by omega) (evp_ite (fun _ => evp_ite (fun _ => evp_ite (fun _ => n1 _ (by omega) (by omega)) (fun _ => n1 _ (by omega) (by omega))) (fun _ => n1 _ (by omega) (by omega))) (fun _ => evp_ite (fun _ => evp_ite (fun _ => n1 _ (by omega) (by omega)) (fun _ => n1 _ (by omega) (by omega))) (fun _ => n1 _ (by omega) (by omega)))))
theorem plain_loop (s : ByteArray) (hs : s.size ≤ 1000) (d : Nat) : ∀ i : Nat, i + d = s.size → (∀ j : Nat, j < i → 33 ≤ bt s j ∧ bt s j ≤ 126) → EvP (fun k => r01_Plain.l0 k s (i : Int)) (fun b => b = true → Vis s) := by
 induction d with
 | zero =>
  intro i hi hv
  exact evp_step (fun k => r01_Plain.l0.eq_2 ..) (evp_neg (by omega) (evp_now (fun _ => vis_of_bt (fun j hj => hv j (by omega)))))
 | succ d ih =>
  intro i hi hv
  refine evp_step (fun k => r01_Plain.l0.eq_2 ..) ?_
  rw [wrap_next1 i (by omega)]
  refine evp_pos (by omega) (evp_pos (by omega) (evp_ite (fun _ => evp_now (fun h => by cases h)) (fun h1 => evp_ite (fun _ => evp_now (fun h => by cases h)) (fun h2 => ih (i + 1) (by omega) (fun j hj => ?_)))))
  by_cases e : j = i
  ·rw [e]; omega
  ·exact hv j (by omega)
theorem parse13_evp (s : ByteArray) (hs : s.size ≤ 100) : EvP (fun k => r13_Parse.f k s) ParseOk := by
 have hj0 : ∀ (own : ByteArray) (at' : Int) (bb : Bool), (bb = false → Vis s ∧ IsScheme own ∧ 0 < at' ∧ at' ≤ (s.size : Int)) → EvP (fun k => r13_Parse.j0 k s own at' bb) ParseOk := by
  intro own at' bb hb
  refine evp_step (fun k => r13_Parse.j0.eq_2 ..) (evp_ite (fun _ => evp_now (parse_no _ _ _ _ _ 2 (by decide))) (fun h => ?_))
  have hbf : bb = false := by cases bb with
   | true => exact absurd rfl h
   | false => rfl
  obtain ⟨hv, ho, h0, h1⟩ := hb hbf
  obtain ⟨m, rfl⟩ := Int.eq_ofNat_of_zero_le (Int.le_of_lt h0)
  have hp : 0 ≤ portB own ∧ portB own ≤ 65535 := by
   unfold portB
   split
   ·omega
   ·split <;> omega
  refine evp_get (port_eq own) (evp_bind (first_evp s (⟨#[47, 63, 35]⟩ : ByteArray) (by omega) (by decide) m (by omega)) (fun t ht => ?_))
  obtain ⟨t1, t2, t3, t4⟩ := ht
  obtain ⟨e, rfl⟩ := Int.eq_ofNat_of_zero_le (show 0 ≤ t by omega)
  have hz : (s.extract ((m : Int)).toNat ((e : Int)).toNat).size ≤ 100 := by rw [ByteArray.size_extract]; omega
  exact evp_pos (by omega) (evp_pos t1 (evp_pos t2 (parse_l0 s hs hv e (by omega) (fun h => t3 (by omega)) _ hz own _ _ _ _ ho hp.1 hp.2 _ 0 (-1) (Nat.zero_add _) (by omega) (by omega))))
 refine evp_ite (fun h => evp_now (parse_no _ _ _ _ _ 3 (by decide))) (fun _ => evp_bind (plain_loop s (by omega) s.size 0 (by omega) (fun j hj => by omega)) (fun b hb => evp_bind (scheme_evp s (by omega)) (fun r hr => evp_ite (fun h => hj0 _ _ _ (fun h2 => ?_)) (fun _ => hj0 _ _ _ (fun h => by cases h)))))
 rcases hr with h3 | h3
 ·rw [h3] at h2; exact absurd h2 (by decide)
 ·exact ⟨hb h, h3.1, h3.2.1, h3.2.2⟩
theorem good_loop (s : ByteArray) (hs : s.size ≤ 100) (d : Nat) : ∀ (i : Nat) (p : ByteArray), i + d = s.size → p.size ≤ i + 1 → Vis p → 0 < p.size → bt p 0 = 47 → EvP (fun k => r13_Good.l0 k s p (i : Int)) (fun r => UrlOk r.1 r.2.1 r.2.2.1 r.2.2.2.1 r.2.2.2.2) := by
 have hend : ∀ (i : Nat) (p : ByteArray) , p.size ≤ 101 → Vis p → 0 < p.size → bt p 0 = 47 → EvP (fun k => r13_Good.j1 k s p (i : Int) false) (fun r => UrlOk r.1 r.2.1 r.2.2.1 r.2.2.2.1 r.2.2.2.2) := fun i p h1 h2 h3 h4 =>
  evp_step (fun k => r13_Good.j1.eq_2 ..) (evp_neg (by decide) (evp_now ⟨.inl rfl, ⟨show Vis (⟨#[120, 46, 116, 101, 115, 116]⟩ : ByteArray) from vis_lit _ (by decide), by show (⟨#[120, 46, 116, 101, 115, 116]⟩ : ByteArray).size ≤ 200; decide⟩, by show (0 : Int) ≤ 80 + ((s.size : Int) % 3); omega, by show 80 + ((s.size : Int) % 3) ≤ 65535; omega, ⟨⟨h2, by show p.size ≤ 200; omega⟩, h3, h4⟩, ⟨vis_empty, by show (⟨#[]⟩ : ByteArray).size ≤ 200; decide⟩⟩))
 induction d with
 | zero =>
  intro i p hi h1 h2 h3 h4
  exact evp_step (fun k => r13_Good.l0.eq_2 ..) (evp_neg (by omega) (hend i p (by omega) h2 h3 h4))
 | succ d ih =>
  intro i p hi h1 h2 h3 h4
  refine evp_step (fun k => r13_Good.l0.eq_2 ..) (evp_pos (by omega) ?_)
  by_cases h9 : (i : Int) < 9
  ·rw [decide_eq_true h9]
   refine evp_step (fun k => r13_Good.j1.eq_2 ..) (evp_pos rfl ?_)
   rw [wrap_next1 i (by omega)]
   have hz : (s.extract ((i : Int)).toNat (((i + 1 : Nat) : Int)).toNat).size = 1 := by rw [ByteArray.size_extract]; omega
   have hb := bt_extract s i (i + 1) (by omega) (by omega)
   refine evp_pos (by omega) (evp_pos (by omega) (evp_ite (fun a => evp_ite (fun b => evp_pos (by omega) (evp_pos (by omega) (evp_pos (by omega) (ih (i + 1) _ (by omega) (by rw [ByteArray.size_append]; omega) (h2.append (vis_of_bt (fun j hj => ?_))) (by rw [ByteArray.size_append]; omega) (by rw [show (0 : Int) = ((0 : Nat) : Int) from rfl, bt_left p _ 0 h3]; exact h4))))) (fun _ => ih (i + 1) p (by omega) (by omega) h2 h3 h4)) (fun _ => ih (i + 1) p (by omega) (by omega) h2 h3 h4)))
   obtain rfl : j = 0 := by omega
   rw [Int.toNat_natCast, Int.toNat_natCast, show ((0 : Nat) : Int) = 0 from rfl, hb]
   omega
  ·rw [decide_eq_false h9]
   exact hend i p (by omega) h2 h3 h4
theorem good_evp (s : ByteArray) (hs : s.size ≤ 100) : EvP (fun k => r13_Good.f k s) (fun r => UrlOk r.1 r.2.1 r.2.2.1 r.2.2.2.1 r.2.2.2.2) :=
 evp_bind (parse13_evp s hs) (fun r hr => evp_ite (fun h => evp_now (hr h)) (fun _ => good_loop s hs s.size 0 _ (by omega) (by decide) (vis_lit _ (by decide)) (by decide) (by decide)))
end Go.Proofs.YthjhbhgfckaklaaDoor.P
