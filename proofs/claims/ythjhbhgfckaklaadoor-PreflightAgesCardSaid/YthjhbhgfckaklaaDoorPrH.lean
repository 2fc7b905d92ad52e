/-
  Plain law: PreflightAges.
-/
import Derived.Test.YthjhbhgfckaklaaDoorPrG
namespace Go.Proofs.YthjhbhgfckaklaaDoor.P
open Go.RowKit Go.Proofs.YthjhbhgfckaklaaDoorW.PrintWords Go.Proofs.YthjhbhgfckaklaaDoorW.PrintLast Go.Proofs.YthjhbhgfckaklaaDoorW.PrintMore
set_option linter.unusedVariables false
set_option linter.unusedSimpArgs false
theorem Around_some (a m : Int) (hm : 0 < m) (ha : (Lit.int .i64 a).wf = true) : ∃ n : Int, 0 ≤ n ∧ n < m ∧ abatisref01_Around.f a m = some n := by
  have hb : -9223372036854775808 ≤ a ∧ a ≤ 9223372036854775807 := by
    simp [Lit.wf] at ha
    exact ha
  unfold abatisref01_Around.f
  by_cases h : a < 0
  · rw [if_pos h, if_neg (by omega)]
    have e : wrap64 (-(wrap64 (a + 1))) = -(a + 1) := by unfold wrap64; omega
    rw [e, Int.tmod_eq_emod_of_nonneg (by omega)]
    exact ⟨_, Int.emod_nonneg _ (by omega), Int.emod_lt_of_pos _ hm, rfl⟩
  · rw [if_neg h, if_neg (by omega), Int.tmod_eq_emod_of_nonneg (by omega)]
    exact ⟨_, Int.emod_nonneg _ (by omega), Int.emod_lt_of_pos _ hm, rfl⟩
def digC (c : Int) : Bool := decide (48 ≤ c) && decide (c ≤ 57)
theorem digC_true {c : Int} (h : digC c = true) : 48 ≤ c ∧ c ≤ 57 := by
  unfold digC at h
  rw [Bool.and_eq_true] at h
  exact ⟨of_decide_eq_true h.1, of_decide_eq_true h.2⟩
theorem digC_false {c : Int} (h : digC c = false) : c < 48 ∨ 57 < c := by
  unfold digC at h
  rw [Bool.and_eq_false_iff] at h
  rcases h with h | h
  · have := of_decide_eq_false h; omega
  · have := of_decide_eq_false h; omega
theorem digFrom_eq (s : ByteArray) (d : Nat) : ∀ (pos f : Nat), pos + d = s.size → d ≤ f → digFrom s f pos = ((bytesOf s).drop pos).all digC := by
  induction d with
  | zero =>
    intro pos f hp hf
    rw [digFrom_end s f pos (by omega), List.drop_of_length_le (by rw [bytesOf_length]; omega)]
    rfl
  | succ d ih =>
    intro pos f hp hf
    have hlt : pos < s.size := by omega
    obtain ⟨f, rfl⟩ : ∃ g, f = g + 1 := ⟨f - 1, by omega⟩
    rw [bytesOf_drop s pos hlt, List.all_cons, digFrom, if_pos hlt]
    by_cases hb : (s[pos]'hlt).toNat < 128
    · have hd := decode_ascii s pos hlt hb
      have h1 : ((Utf8.decode s pos).1 : Int) = bt s pos := by rw [hd, bt_get s pos hlt]
      have h2 : (Utf8.decode s pos).2 = 1 := by rw [hd]
      cases hc : digC (bt s pos) with
      | true =>
        have := digC_true hc
        rw [if_neg (by omega), h2, ih (pos + 1) f (by omega) (by omega)]
        rfl
      | false =>
        have := digC_false hc
        rw [if_pos (by omega)]
        rfl
    · have hh := (decode_high s pos hlt (by omega)).1
      have h2 : digC (bt s pos) = false := by
        unfold digC
        rw [decide_eq_false (show ¬ bt s pos ≤ 57 by rw [bt_get s pos hlt]; omega), Bool.and_false]
      rw [h2, if_pos (.inr (by omega))]
      rfl
def nOld : ByteArray := ⟨#[97, 99, 99, 101, 115, 115, 45, 99, 111, 110, 116, 114, 111, 108, 45, 77, 65, 88, 45, 97, 103, 101]⟩
theorem like_old : text_Like.f nOld nAge = some true := by decide +kernel
theorem like_age : text_Like.f nAge nAge = some true := by decide +kernel
def ageB (v : ByteArray) : Int := if (bytesOf v).all digC = true then (if v.size = 0 then 5 else match numL 10 (bytesOf v) 0 with | some n => min n 7200 | none => 7200) else 5
theorem Age_one (nm v : ByteArray) (h : text_Like.f nm nAge = some true) : preflight_Age.f [⟨nm, v⟩] = some (ageB v) := by
  have hg : head_Get.f [⟨nm, v⟩] nAge = some (v, true) := by
    unfold head_Get.f
    rw [if_pos (by simp)]
    unfold ofList
    rw [show ((⟨nm, v⟩ : S25).f0) = nm from rfl, h]
    rfl
  unfold preflight_Age.f ageB
  rw [hg]
  show (if digFrom v v.size 0 = true then _ else _) = _
  rw [digFrom_eq v v.size 0 v.size (by omega) (by omega), List.drop_zero]
  by_cases c : (bytesOf v).all digC = true
  · rw [if_pos c, if_pos c, Number_eq v 10 (by omega) (by omega)]
    show some _ = some _
    congr 1
    by_cases z : v.size = 0
    · rw [if_pos z, if_pos z]
    · rw [if_neg z, if_neg z]
      cases numL 10 (bytesOf v) 0 with
      | none => rfl
      | some n =>
        show (if decide (0 < v.size) = true then _ else _) = _
        rw [decide_eq_true (by omega), if_pos rfl]
        rfl
  · rw [if_neg c, if_neg c]
theorem numL_nonneg : ∀ (l : List Int) (n m : Int), 0 ≤ n → numL 10 l n = some m → 0 ≤ m
  | [], n, m, hn, h => by cases Option.some.inj h; exact hn
  | c :: l, n, m, hn, h => by
    unfold numL at h
    split at h
    · cases h
    · split at h
      · cases h
      · exact numL_nonneg l _ m (by omega) h
theorem ageB_range (v : ByteArray) : 0 ≤ ageB v ∧ ageB v ≤ 7200 := by
  unfold ageB
  split
  · split
    · omega
    · cases hn : numL 10 (bytesOf v) 0 with
      | none => show 0 ≤ (7200 : Int) ∧ (7200 : Int) ≤ 7200; omega
      | some n =>
        have := numL_nonneg _ 0 n (by omega) hn
        show 0 ≤ min n 7200 ∧ min n 7200 ≤ 7200
        omega
  · omega
theorem decS_dig (u : Nat) : (bytesOf (decS u)).all digC = true := by
  rw [bytes_decS]
  induction u using Nat.strongRecOn with
  | _ u ih =>
    have h1 : ∀ d, d < 10 → digC (((UInt8.ofNat (48 + d)).toNat : Int)) = true := by
      intro d hd
      rw [ofNat_digit d hd]
      unfold digC
      rw [decide_eq_true (by omega), decide_eq_true (by omega)]
      rfl
    by_cases hs : u < 10
    · rw [dec_small u hs, List.map_cons, List.map_nil, List.all_cons, h1 u hs]
      rfl
    · rw [dec_big u hs, List.map_append, List.all_append, ih (u / 10) (by omega), List.map_cons, List.map_nil, List.all_cons, h1 _ (Nat.mod_lt _ (by omega))]
      rfl
theorem age_dec (u : Nat) (h : u ≤ 100000) : ageB (decS u) = min (u : Int) 7200 := by
  unfold ageB
  have := decS_pos u
  rw [if_pos (decS_dig u), if_neg (by omega), num_dec, if_pos (by omega)]
theorem age_neg (s : ByteArray) : ageB ((⟨#[45]⟩ : ByteArray) ++ s) = 5 := by
  unfold ageB
  have e : bytesOf ((⟨#[45]⟩ : ByteArray) ++ s) = 45 :: bytesOf s := by unfold bytesOf; simp
  rw [e, List.all_cons, show digC 45 = false from by decide]
  rfl
theorem ages_end (u : Nat) (hu : u ≤ 100000) (s : ByteArray) (fl : Bool) (hf : fl = true ∨ ageB s = 5) : Ev (fun k => abatislaw17_PreflightAges.l0 k (u : Int) s fl (s.size : Int)) true := by
  have hd := refDecimal_ev u (by omega)
  have hz := decS_size u (by have : (10 : Nat) ^ 19 * 10 = 100000000000000000000 := by decide
                             omega)
  have hr := ageB_range s
  have hl : abatislaw17_lives.f = some true := by decide +kernel
  have em : mn (u : Int) 7200 = min (u : Int) 7200 := by unfold mn; omega
  refine Ev.step (fun k => abatislaw17_PreflightAges.l0.eq_2 ..) (ev_neg (by omega) ?_)
  refine Ev.bind hd (ev_get (Age_one nOld _ like_old) (ev_get (Age_one nAge s like_age) (Ev.bind hd (ev_pos (by omega) (ev_get (Age_one nAge _ like_age) (ev_pos ?_ ?_))))))
  · rw [age_dec u hu, em]
  · cases fl with
    | true => exact ev_pos rfl (ev_pos hr.1 (ev_pos hr.2 (ev_pos (age_neg _) (ev_get hl (Ev.now _)))))
    | false =>
      have h5 : ageB s = 5 := by rcases hf with h | h; cases h; exact h
      exact ev_neg (by decide) (ev_pos h5 (ev_pos hr.1 (ev_pos hr.2 (ev_pos (age_neg _) (ev_get hl (Ev.now _))))))
theorem ages_loop (u : Nat) (hu : u ≤ 100000) (s : ByteArray) (hs : s.size ≤ 1000) (d : Nat) : ∀ (i : Nat) (fl : Bool), i + d = s.size → (fl = false → ageB s = 5) →
    Ev (fun k => abatislaw17_PreflightAges.l0 k (u : Int) s fl (i : Int)) true := by
  induction d with
  | zero =>
    intro i fl hi hf
    obtain rfl : i = s.size := by omega
    exact ages_end u hu s fl (by cases fl with | true => exact .inl rfl | false => exact .inr (hf rfl))
  | succ d ih =>
    intro i fl hi hf
    have hlt : i < s.size := by omega
    have e : wrap64 ((i : Int) + 1) = ((i + 1 : Nat) : Int) := by unfold wrap64; omega
    have hbad : digC (bt s i) = false → ageB s = 5 := by
      intro hc
      unfold ageB
      rw [if_neg]
      intro h
      rw [List.all_eq_true] at h
      have hm : bt s i ∈ bytesOf s := by
        have := List.mem_of_mem_drop (show bt s i ∈ (bytesOf s).drop i by rw [bytesOf_drop s i hlt]; exact List.mem_cons_self)
        exact this
      have := h _ hm
      rw [hc] at this
      cases this
    refine Ev.step (fun k => abatislaw17_PreflightAges.l0.eq_2 ..) (ev_pos (by omega) ?_)
    rw [e]
    cases fl with
    | false => exact ev_neg (by decide) (ih (i + 1) false (by omega) hf)
    | true =>
      refine ev_pos rfl (ev_pos (by omega) ?_)
      by_cases h48 : bt s i ≥ 48
      · refine ev_pos h48 (ih (i + 1) _ (by omega) (fun h => hbad ?_))
        unfold digC
        rw [h, Bool.and_false]
      · refine ev_neg h48 (ih (i + 1) false (by omega) (fun _ => hbad ?_))
        unfold digC
        rw [decide_eq_false (by omega), Bool.false_and]
theorem PreflightAges_ev (a0 : Int) (a1 : ByteArray) (h0 : (Lit.int .i64 a0).wf = true) : Ev (fun k => abatislaw17_PreflightAges.f k a0 a1) true := by
  obtain ⟨m, m0, m1, m2⟩ := Around_some a0 100001 (by omega) h0
  obtain ⟨u, rfl⟩ : ∃ u : Nat, m = (u : Int) := ⟨m.toNat, by omega⟩
  have h1 : abatisref01_Few.f a1 20 = some (few a1 20) := Few_eq a1 20
  have s1 := few_size a1 20
  unfold abatislaw17_PreflightAges.f
  generalize few a1 20 = s at *
  refine ev_get m2 (ev_get h1 (ages_loop u (by omega) s (by omega) s.size 0 _ (by omega) (fun h => ?_)))
  have hz : s.size = 0 := by
    have : s.toList = [] := by simpa using h
    rw [toList_eq] at this
    rw [← data_length, this]
    rfl
  unfold ageB
  split <;> first | rfl | rw [if_pos hz]
end Go.Proofs.YthjhbhgfckaklaaDoor.P
