/-
  Plain law: addresses of 32 and of 128 bits, read and printed: answers (EvP), visible texts.
-/
import Derived.Test.YthjhbhgfckaklaaDoorGoA
import Derived.Test.YthjhbhgfckaklaaDoorVis
import Derived.Test.YthjhbhgfckaklaaDoorSixP
import Derived.Test.YthjhbhgfckaklaaDoorSixQ
import Derived.Test.YthjhbhgfckaklaaDoorJoin
namespace Go.Proofs.YthjhbhgfckaklaaDoor.P
open Go.RowKit Go.Proofs.YthjhbhgfckaklaaDoorW.PrintWords Go.Proofs.YthjhbhgfckaklaaDoorW.PrintLast Go.Proofs.YthjhbhgfckaklaaDoorW.PrintMore
set_option linter.unusedVariables false
set_option linter.unusedSimpArgs false
theorem rdOf_at (l : List ByteArray) (i : Nat) (h : i < l.length) : rdOf ByteArray.empty l (i : Int) = l[i] := by
  unfold rdOf
  rw [Int.toNat_natCast, List.getD_eq_getElem?_getD, List.getElem?_eq_getElem h]
  rfl
theorem rdOf_mem (l : List ByteArray) (i : Nat) (h : i < l.length) : rdOf ByteArray.empty l (i : Int) ∈ l := by rw [rdOf_at l i h]; exact List.getElem_mem h
theorem vis_decS (u : Nat) : Vis (decS u) := vis_dec u
theorem wrap_pred (n : Nat) (h0 : 1 ≤ n) (h : n ≤ 100000) : wrap64 ((n : Int) - 1) = ((n - 1 : Nat) : Int) := by unfold wrap64; omega
/-! ### Loose -/
def LooseOk (r : Int × Int) : Prop := r.2 = 2 → 0 ≤ r.1 ∧ r.1 < 4294967296
theorem loose_no (m : Int) (h : m ≠ 2) : LooseOk (0, m) := fun e => absurd e h
theorem loose_l1 (x5 : ByteArray) (hs : x5.size ≤ 1000) (d : Nat) : ∀ (i : Nat) (x6 x9 : Int), i + d = 5 → EvP (fun k => r02_Loose.l1 k x5 x6 x9 (i : Int)) LooseOk := by
  induction d with
  | zero =>
    intro i x6 x9 hi
    refine evp_step (fun k => r02_Loose.l1.eq_2 ..) (evp_neg (by omega) (evp_bind (part_evp x5 hs) (fun t _ => evp_ite (fun _ => evp_now (loose_no 1 (by decide))) (fun _ => evp_ite (fun _ => evp_now (loose_no 1 (by decide))) (fun _ => evp_now (fun _ => ?_))))))
    exact ⟨Int.emod_nonneg _ (by decide), Int.emod_lt_of_pos _ (by decide)⟩
  | succ d ih =>
    intro i x6 x9 hi
    refine evp_step (fun k => r02_Loose.l1.eq_2 ..) (evp_pos (by omega) ?_)
    rw [wrap_next1 i (by omega)]
    exact ih (i + 1) _ _ (by omega)
theorem loose_l0 (x4 : List ByteArray) (h4 : x4.length ≤ 4) (h1 : 1 ≤ x4.length) (hp : ∀ p ∈ x4, p.size ≤ 1000) (x5 : ByteArray) (hs : x5.size ≤ 1000) (d : Nat) : ∀ (i : Nat) (x6 : Int), i + d = x4.length - 1 → EvP (fun k => r02_Loose.l0 k x4 x5 x6 (i : Int)) LooseOk := by
  induction d with
  | zero =>
    intro i x6 hi
    refine evp_step (fun k => r02_Loose.l0.eq_2 ..) ?_
    rw [wrap_next1 i (by omega)]
    exact evp_neg (by omega) (loose_l1 x5 hs (5 - x4.length) x4.length _ _ (by omega))
  | succ d ih =>
    intro i x6 hi
    refine evp_step (fun k => r02_Loose.l0.eq_2 ..) ?_
    rw [wrap_next1 i (by omega)]
    refine evp_pos (by omega) (evp_pos (by omega) (evp_pos (by omega) (evp_bind (part_evp _ (hp _ (rdOf_mem x4 i (by omega)))) (fun t _ => evp_ite (fun _ => evp_now (loose_no 1 (by decide))) (fun _ => evp_ite (fun _ => evp_now (loose_no 1 (by decide))) (fun _ => ih (i + 1) _ (by omega)))))))
theorem loose_j2 (x4 : List ByteArray) (h1 : 1 ≤ x4.length) (hp : ∀ p ∈ x4, p.size ≤ 1000) (x5 : ByteArray) (hs : x5.size ≤ 1000) (b : Bool) : EvP (fun k => r02_Loose.j2 k x4 x5 b) LooseOk :=
  evp_step (fun k => r02_Loose.j2.eq_2 ..) (evp_ite (fun _ => evp_now (loose_no 0 (by decide))) (fun _ => evp_ite (fun _ => evp_now (loose_no 1 (by decide))) (fun h => loose_l0 x4 (by omega) h1 hp x5 hs (x4.length - 1) 0 _ (by omega))))
theorem loose_j1 (x4 : List ByteArray) (h1 : 1 ≤ x4.length) (h2 : x4.length ≤ 1001) (hp : ∀ p ∈ x4, p.size ≤ 1000) : EvP (fun k => r02_Loose.j1 k x4) LooseOk := by
  refine evp_step (fun k => r02_Loose.j1.eq_2 ..) ?_
  rw [wrap_pred _ h1 (by omega)]
  have hl := hp _ (rdOf_mem x4 (x4.length - 1) (by omega))
  generalize rdOf ByteArray.empty x4 ((x4.length - 1 : Nat) : Int) = z at hl ⊢
  exact evp_pos (by omega) (evp_pos (by omega) (evp_bind (part_evp z hl) (fun t _ => evp_ite (fun _ => evp_ite (fun _ => loose_j2 x4 h1 hp z hl _) (fun _ => evp_bind (digits_evp z 10 (by omega) (by omega) hl) (fun t _ => loose_j2 x4 h1 hp z hl _))) (fun _ => loose_j2 x4 h1 hp z hl _))))
theorem loose_j0 (x4 : List ByteArray) (h1 : 1 ≤ x4.length) (h2 : x4.length ≤ 1001) (hp : ∀ p ∈ x4, p.size ≤ 1000) (b : Bool) (hb : b = true → 2 ≤ x4.length) : EvP (fun k => r02_Loose.j0 k x4 b) LooseOk := by
  refine evp_step (fun k => r02_Loose.j0.eq_2 ..) ?_
  rw [wrap_pred _ h1 (by omega)]
  refine evp_ite (fun h => evp_pos (by omega) (evp_pos (by omega) (loose_j1 _ ?_ ?_ (fun p hq => hp p (List.mem_of_mem_take hq))))) (fun _ => loose_j1 x4 h1 h2 hp)
  · have := hb h; rw [List.length_take, Int.toNat_natCast]; omega
  · rw [List.length_take]; omega
theorem loose_evp (s : ByteArray) (hs : s.size ≤ 1000) : EvP (fun k => r02_Loose.f k s) LooseOk := by
  refine evp_bind (split_evp s 46 1000 hs (by omega)) (fun t ht => ?_)
  obtain ⟨h1, h2, h3⟩ := ht
  rw [wrap_pred _ h1 (by omega)]
  exact evp_ite (fun h => evp_pos (by omega) (evp_pos (by omega) (loose_j0 t h1 h2 h3 _ (fun _ => by omega)))) (fun _ => loose_j0 t h1 h2 h3 false (fun h => by cases h))
/-! ### four numbers with dots between -/
def VisN (n : Nat) (s : ByteArray) : Prop := Vis s ∧ s.size ≤ n
theorem vis_dot : Vis (⟨#[46]⟩ : ByteArray) := vis_lit _ (by decide)
theorem print02_loop (d : Nat) : ∀ (i u : Nat) (s : ByteArray), i + d = 4 → u ≤ 4294967295 → VisN (22 * i) s → EvP (fun k => r02_Print.l0 k (u : Int) s (i : Int)) (VisN 88) := by
  induction d with
  | zero =>
    intro i u s hi hu hs
    obtain rfl : i = 4 := by omega
    exact evp_step (fun k => r02_Print.l0.eq_2 ..) (evp_neg (by omega) (evp_now hs))
  | succ d ih =>
    intro i u s hi hu hs
    have e1 : wrap64 (Int.tmod (u : Int) 256) = ((u % 256 : Nat) : Int) := by
      rw [show Int.tmod (u : Int) 256 = ((u % 256 : Nat) : Int) from by rw [Int.tmod_eq_emod_of_nonneg (Int.natCast_nonneg _)]; rfl]
      unfold wrap64; omega
    have e2 : (Int.tdiv (u : Int) 256) % 4294967296 = ((u / 256 : Nat) : Int) := by
      rw [show Int.tdiv (u : Int) 256 = ((u / 256 : Nat) : Int) from by rw [Int.tdiv_eq_ediv_of_nonneg (Int.natCast_nonneg _)]; rfl]
      omega
    have hd := refDecimal_ev (u % 256) (by omega)
    have hz := decS_size (u % 256) (by have : (10 : Nat) ^ 19 * 10 = 100000000000000000000 := by decide
                                       omega)
    have hv := vis_decS (u % 256)
    have z1 : (⟨#[46]⟩ : ByteArray).size = 1 := rfl
    have hs2 := hs.2
    refine evp_step (fun k => r02_Print.l0.eq_2 ..) (evp_pos (by omega) ?_)
    rw [e1, e2, wrap_next1 i (by omega)]
    refine evp_ite (fun _ => evp_pos (by omega) (evp_bind (EvP.of hd rfl) (fun t ht => ?_))) (fun _ => evp_bind (EvP.of hd rfl) (fun t ht => ?_))
    · subst ht
      refine evp_pos (by rw [ByteArray.size_append]; omega) (ih (i + 1) _ _ (by omega) (by omega) ⟨hv.append (vis_dot.append hs.1), ?_⟩)
      rw [ByteArray.size_append, ByteArray.size_append]; omega
    · subst ht
      refine evp_pos (by omega) (ih (i + 1) _ _ (by omega) (by omega) ⟨hv.append hs.1, ?_⟩)
      rw [ByteArray.size_append]; omega
theorem print02_evp (n : Int) (h0 : 0 ≤ n) (h1 : n < 4294967296) : EvP (fun k => r02_Print.f k n) (VisN 88) := by
  obtain ⟨u, rfl⟩ := Int.eq_ofNat_of_zero_le h0
  exact print02_loop 4 0 u _ (by omega) (by omega) ⟨vis_empty, by show (⟨#[]⟩ : ByteArray).size ≤ 0; decide⟩
/-! ### groups -/
theorem strict_loop (x4 : List ByteArray) (h4 : x4.length = 4) (hp : ∀ p ∈ x4, p.size ≤ 1000) (d : Nat) : ∀ (i : Nat) (x5 : Int), i + d = 4 → EvP (fun k => r02_Strict.l0 k x4 x5 (i : Int)) (fun _ => True) := by
  induction d with
  | zero =>
    intro i x5 hi
    exact evp_step (fun k => r02_Strict.l0.eq_2 ..) (evp_neg (by omega) (evp_now trivial))
  | succ d ih =>
    intro i x5 hi
    refine evp_step (fun k => r02_Strict.l0.eq_2 ..) ?_
    rw [wrap_next1 i (by omega)]
    exact evp_pos (by omega) (evp_pos (by omega) (evp_pos (by omega) (evp_bind (number_evp _ 10 (by omega) (by omega) (hp _ (rdOf_mem x4 i (by omega)))) (fun r _ => evp_ite (fun _ => evp_ite (fun _ => evp_now trivial) (fun _ => evp_ite (fun h => evp_pos (by omega) (evp_ite (fun _ => evp_now trivial) (fun _ => ih (i + 1) _ (by omega)))) (fun _ => ih (i + 1) _ (by omega)))) (fun _ => evp_now trivial)))))
theorem strict_evp (s : ByteArray) (hs : s.size ≤ 1000) : EvP (fun k => r02_Strict.f k s) (fun _ => True) :=
  evp_bind (split_evp s 46 1000 hs (by omega)) (fun t ht => evp_ite (fun h => strict_loop t (by omega) ht.2.2 4 0 0 (by omega)) (fun _ => evp_now trivial))
theorem hex_evp (s : ByteArray) (hs : s.size ≤ 1000) : EvP (fun k => r03_hex.f k s) (fun _ => True) :=
  evp_bind (number_evp s 16 (by omega) (by omega) hs) (fun r _ => evp_ite (fun _ => evp_ite (fun _ => evp_now trivial) (fun _ => evp_now trivial)) (fun _ => evp_now trivial))
theorem groups_loop (b : Bool) (x7 : List ByteArray) (hl : x7.length ≤ 1001) (hp : ∀ p ∈ x7, p.size ≤ 1000) (d : Nat) : ∀ (i : Nat) (x6 : List Int), i + d = x7.length → x6.length ≤ 2 * i → EvP (fun k => r03_Groups.l0 k b x6 x7 (i : Int)) (fun r => r.1.length ≤ 3000) := by
  induction d with
  | zero =>
    intro i x6 hi h6
    exact evp_step (fun k => r03_Groups.l0.eq_2 ..) (evp_neg (by omega) (evp_now (by show x6.length ≤ 3000; omega)))
  | succ d ih =>
    intro i x6 hi h6
    have hz := hp _ (rdOf_mem x7 i (by omega))
    refine evp_step (fun k => r03_Groups.l0.eq_2 ..) ?_
    rw [wrap_next1 i (by omega)]
    refine evp_pos (by omega) (evp_pos (by omega) (evp_bind (hex_evp _ hz) (fun t _ => evp_ite (fun _ => evp_pos (by omega) (ih (i + 1) _ (by omega) (by simp; omega))) (fun _ => evp_bind (strict_evp _ hz) (fun r _ => evp_ite (fun _ => evp_ite (fun _ => evp_ite (fun _ => evp_now (by simp)) (fun _ => evp_get rfl (evp_pos ?_ (ih (i + 1) _ (by omega) ?_)))) (fun _ => evp_now (by simp))) (fun _ => evp_now (by simp)))))))
    · simp only [List.length_cons, List.length_nil]; omega
    · simp only [List.length_append, List.length_cons, List.length_nil]; omega
theorem groups_evp (s : ByteArray) (b : Bool) (hs : s.size ≤ 1000) : EvP (fun k => r03_Groups.f k s b) (fun r => r.1.length ≤ 3000) :=
  evp_ite (fun _ => evp_now (by simp)) (fun _ => evp_bind (split_evp s 58 1000 hs (by omega)) (fun t ht => groups_loop b t ht.2.1 ht.2.2 t.length 0 [] (by omega) (by simp)))
def GapOk (n : Nat) (r : Int) : Prop := r = -1 ∨ (0 ≤ r ∧ r + 2 ≤ (n : Int))
theorem gap_loop (s : ByteArray) (hs : s.size ≤ 1000) (d : Nat) : ∀ i : Nat, i + d = s.size → EvP (fun k => r03_gap.l0 k s (i : Int)) (GapOk s.size) := by
  induction d with
  | zero =>
    intro i hi
    refine evp_step (fun k => r03_gap.l0.eq_2 ..) ?_
    rw [wrap_next1 i (by omega)]
    exact evp_neg (by omega) (evp_now (.inl rfl))
  | succ d ih =>
    intro i hi
    refine evp_step (fun k => r03_gap.l0.eq_2 ..) ?_
    rw [wrap_next1 i (by omega)]
    refine evp_ite (fun h => evp_pos (by omega) (evp_pos (by omega) (evp_ite (fun _ => evp_pos (by omega) (evp_ite (fun _ => evp_now (.inr ⟨by omega, by omega⟩)) (fun _ => ih (i + 1) (by omega)))) (fun _ => ih (i + 1) (by omega))))) (fun _ => evp_now (.inl rfl))
theorem gap_evp (s : ByteArray) (hs : s.size ≤ 1000) : EvP (fun k => r03_gap.f k s) (GapOk s.size) := gap_loop s hs s.size 0 (by omega)
def U16 (x : Int) : Prop := 0 ≤ x ∧ x ≤ 65535
def G8 (r : Int × Int × Int × Int × Int × Int × Int × Int × Bool) : Prop := U16 r.1 ∧ U16 r.2.1 ∧ U16 r.2.2.1 ∧ U16 r.2.2.2.1 ∧ U16 r.2.2.2.2.1 ∧ U16 r.2.2.2.2.2.1 ∧ U16 r.2.2.2.2.2.2.1 ∧ U16 r.2.2.2.2.2.2.2.1
theorem u16_wrap (x : Int) : U16 (IntKind.u16.wrap x) := by
  have : IntKind.u16.wrap x = x % 65536 := by simp [IntKind.wrap, IntKind.bits, IntKind.signed]
  rw [this]
  exact ⟨Int.emod_nonneg _ (by decide), by omega⟩
theorem pl_u16 (g : Nat → Int) (off : Nat) (l : List Int) (i : Nat) (hg : ∀ j, U16 (g j)) : ∀ j, U16 (pl g off l i j) := by
  intro j
  unfold pl
  split
  · exact u16_wrap _
  · exact hg j
theorem zero_u16 : ∀ j, U16 (zero8 j) := fun j => ⟨by show (0 : Int) ≤ 0; omega, by show (0 : Int) ≤ 65535; omega⟩
theorem out_g8 (g : Nat → Int) (v : Bool) (h : ∀ j, U16 (g j)) : G8 (out8 g v) := ⟨h 0, h 1, h 2, h 3, h 4, h 5, h 6, h 7⟩
theorem parse03_evp (s : ByteArray) (hs : s.size ≤ 1000) : EvP (fun k => r03_Parse.f k s) G8 := by
  unfold r03_Parse.f
  refine evp_bind (gap_evp s hs) (fun t ht => evp_ite (fun _ => evp_bind (groups_evp s true hs) (fun l hl => evp_ite (fun _ => evp_now (out_g8 _ _ (pl_u16 _ _ _ _ zero_u16))) (fun _ => evp_now (out_g8 _ _ zero_u16)))) (fun h0 => evp_pos ?_ (evp_bind (groups_evp _ false (extract_size s _ _ 1000 hs)) (fun a ha => evp_bind (groups_evp _ true (extract_size s _ _ 1000 hs)) (fun b hb => evp_pos ⟨by omega, by omega⟩ (evp_ite (fun _ => evp_now (out_g8 _ _ (pl_u16 _ _ _ _ (pl_u16 _ _ _ _ zero_u16)))) (fun _ => evp_now (out_g8 _ _ zero_u16))))))))
  rcases ht with rfl | ⟨h1, h2⟩
  · omega
  · exact ⟨h2, by omega⟩
/-! ### a group's digits, rows of them -/
def hexS : ByteArray := ⟨#[48, 49, 50, 51, 52, 53, 54, 55, 56, 57, 97, 98, 99, 100, 101, 102]⟩
theorem vis_hexS : Vis hexS := vis_lit _ (by decide)
theorem group_evp (n : Nat) : n ≤ 10 → ∀ a : Nat, a < 16 ^ (n + 1) → a ≤ 65535 → EvP (fun k => r03_group.f k (a : Int)) (VisN (n + 1)) := by
  have h1 : ∀ a : Nat, Int.tmod (a : Int) 16 = ((a % 16 : Nat) : Int) := fun a => by rw [Int.tmod_eq_emod_of_nonneg (Int.natCast_nonneg _)]; rfl
  have h2 : ∀ a : Nat, a ≤ 65535 → IntKind.u16.wrap (Int.tdiv (a : Int) 16) = ((a / 16 : Nat) : Int) := fun a ha => by
    rw [show Int.tdiv (a : Int) 16 = ((a / 16 : Nat) : Int) from by rw [Int.tdiv_eq_ediv_of_nonneg (Int.natCast_nonneg _)]; rfl]
    have : IntKind.u16.wrap ((a / 16 : Nat) : Int) = ((a / 16 : Nat) : Int) % 65536 := by simp [IntKind.wrap, IntKind.bits, IntKind.signed]
    rw [this]
    omega
  have h3 : ∀ d : Nat, d < 16 → IntKind.u16.wrap ((d : Int) + 1) = ((d + 1 : Nat) : Int) := fun d hd => by
    have : IntKind.u16.wrap ((d : Int) + 1) = ((d : Int) + 1) % 65536 := by simp [IntKind.wrap, IntKind.bits, IntKind.signed]
    rw [this]
    omega
  have hx : ∀ d : Nat, d < 16 → VisN 1 (hexS.extract ((d : Int)).toNat (((d + 1 : Nat) : Int)).toNat) := fun d hd => ⟨vis_hexS.extract _ _, by rw [ByteArray.size_extract]; omega⟩
  induction n with
  | zero =>
    intro _ a ha hb
    rw [Nat.pow_one] at ha
    refine evp_step (fun k => r03_group.f.eq_2 ..) ?_
    rw [h1, h3 _ (Nat.mod_lt _ (by omega))]
    exact evp_pos (by omega) (evp_pos (by omega) (evp_pos (by omega) (evp_pos (by omega) (evp_now (hx _ (Nat.mod_lt _ (by omega)))))))
  | succ n ih =>
    intro hn a ha hb
    have hd : a / 16 < 16 ^ (n + 1) := by
      rw [Nat.pow_succ] at ha
      omega
    have hm := hx (a % 16) (Nat.mod_lt _ (by omega))
    have hm2 := hm.2
    refine evp_step (fun k => r03_group.f.eq_2 ..) ?_
    rw [h1, h2 a hb, h3 _ (Nat.mod_lt _ (by omega))]
    refine evp_pos (by omega) (evp_pos (by omega) (evp_pos (by omega) (evp_ite (fun _ => evp_now ⟨hm.1, by have := hm.2; exact Nat.le_trans this (by omega)⟩) (fun _ => evp_bind (ih (by omega) (a / 16) hd (by omega)) (fun t ht => ?_)))))
    have ht2 := ht.2
    refine evp_pos ?_ (evp_now ⟨ht.1.append hm.1, ?_⟩)
    · show t.size + (hexS.extract _ _).size ≤ _
      omega
    · rw [ByteArray.size_append]
      show t.size + (hexS.extract _ _).size ≤ _
      omega
theorem joinS_snoc (sep : ByteArray) (l : List ByteArray) (s : ByteArray) (h : l ≠ []) : joinS sep (l ++ [s]) = joinS sep l ++ sep ++ s := by
  cases l with
  | nil => exact absurd rfl h
  | cons a l => exact joinT_snoc sep l a s
theorem joinS_size (sep : ByteArray) (m : Nat) (hsep : sep.size ≤ m) : ∀ l : List ByteArray, (∀ p ∈ l, p.size ≤ m) → (joinS sep l).size ≤ 2 * m * l.length := by
  have ht : ∀ (l : List ByteArray) (a : ByteArray), (∀ p ∈ l, p.size ≤ m) → (joinT sep a l).size ≤ a.size + 2 * m * l.length := by
    intro l
    induction l with
    | nil => intro a _; exact Nat.le_refl _
    | cons x l ih =>
      intro a h
      have hx := h x List.mem_cons_self
      have := ih (a ++ sep ++ x) (fun p hp => h p (List.mem_cons_of_mem _ hp))
      rw [ByteArray.size_append, ByteArray.size_append] at this
      rw [List.length_cons, Nat.mul_add]
      show (joinT sep (a ++ sep ++ x) l).size ≤ _
      omega
  intro l h
  cases l with
  | nil => exact Nat.zero_le _
  | cons a l =>
    have := ht l a (fun p hp => h p (List.mem_cons_of_mem _ hp))
    have ha := h a List.mem_cons_self
    rw [List.length_cons, Nat.mul_add]
    show (joinT sep a l).size ≤ _
    omega
theorem joinS_vis (sep : ByteArray) (hsep : Vis sep) : ∀ l : List ByteArray, (∀ p ∈ l, Vis p) → Vis (joinS sep l) := by
  have ht : ∀ (l : List ByteArray) (a : ByteArray), Vis a → (∀ p ∈ l, Vis p) → Vis (joinT sep a l) := by
    intro l
    induction l with
    | nil => intro a ha _; exact ha
    | cons x l ih => intro a ha h; exact ih _ ((ha.append hsep).append (h x List.mem_cons_self)) (fun p hp => h p (List.mem_cons_of_mem _ hp))
  intro l h
  cases l with
  | nil => exact vis_empty
  | cons a l => exact ht l a (h a List.mem_cons_self) (fun p hp => h p (List.mem_cons_of_mem _ hp))
theorem take_snocG (l : List ByteArray) (i : Nat) (h : i < l.length) : l.take (i + 1) = l.take i ++ [rdOf ByteArray.empty l (i : Int)] := by
  rw [rdOf_at l i h, List.take_add_one, List.getElem?_eq_getElem h]
  rfl
theorem refJoin_loop (l : List ByteArray) (sep : ByteArray) (hl : l.length ≤ 100000) (m : Nat) (hm : m ≤ 1000000) (hs : sep.size ≤ m) (hp : ∀ p ∈ l, p.size ≤ m) (d : Nat) : ∀ i : Nat, i + d = l.length →
    Ev (fun k => r01_Join.l0 k l sep (joinS sep (l.take i)) (i : Int)) (joinS sep l) := by
  induction d with
  | zero =>
    intro i hi
    rw [List.take_of_length_le (by omega)]
    exact Ev.step (fun k => r01_Join.l0.eq_2 ..) (ev_neg (by omega) (ev_now rfl))
  | succ d ih =>
    intro i hi
    have e : wrap64 ((i : Int) + 1) = ((i + 1 : Nat) : Int) := by unfold wrap64; omega
    have hn := ih (i + 1) (by omega)
    have hx := hp _ (rdOf_mem l i (by omega))
    have hj := joinS_size sep m hs (l.take i) (fun p h => hp p (List.mem_of_mem_take h))
    have hz : 2 * m * (l.take i).length ≤ 2 * 1000000 * 100000 := Nat.mul_le_mul (by omega) (by rw [List.length_take]; omega)
    rw [take_snocG l i (by omega)] at hn
    refine Ev.step (fun k => r01_Join.l0.eq_2 ..) (ev_pos (by omega) ?_)
    rw [e]
    cases i with
    | zero =>
      have e0 : joinS sep (l.take 0 ++ [rdOf ByteArray.empty l ((0 : Nat) : Int)]) = joinS sep (l.take 0) ++ rdOf ByteArray.empty l ((0 : Nat) : Int) := by
        show rdOf ByteArray.empty l ((0 : Nat) : Int) = (⟨#[]⟩ : ByteArray) ++ _
        apply ByteArray.ext
        simp
      rw [e0] at hn
      exact ev_neg (by omega) (ev_pos (by omega) (ev_pos (by omega) hn))
    | succ j =>
      have hne : l.take (j + 1) ≠ [] := by
        intro h
        have := congrArg List.length h
        rw [List.length_take, List.length_nil] at this
        omega
      rw [joinS_snoc sep _ _ hne] at hn
      refine ev_pos (by omega) (ev_pos (by omega) (ev_pos (by omega) (ev_pos ?_ hn)))
      rw [ByteArray.size_append]
      omega
theorem refJoin_ev (l : List ByteArray) (sep : ByteArray) (hl : l.length ≤ 100000) (m : Nat) (hm : m ≤ 1000000) (hs : sep.size ≤ m) (hp : ∀ p ∈ l, p.size ≤ m) : Ev (fun k => r01_Join.f k l sep) (joinS sep l) :=
  refJoin_loop l sep hl m hm hs hp l.length 0 (by omega)
theorem row_loop (x0 : List Int) (h8 : x0.length ≤ 8) (hu : ∀ x ∈ x0, U16 x) (d : Nat) : ∀ (i : Nat) (out : List ByteArray), i + d = x0.length → out.length = i → (∀ p ∈ out, VisN 4 p) → EvP (fun k => r03_row.l0 k x0 out (i : Int)) (VisN 64) := by
  induction d with
  | zero =>
    intro i out hi ho hp
    have hz := joinS_size (⟨#[58]⟩ : ByteArray) 4 (by decide) out (fun p h => (hp p h).2)
    exact evp_step (fun k => r03_row.l0.eq_2 ..) (evp_neg (by omega) (evp_bind (EvP.of (refJoin_ev out (⟨#[58]⟩ : ByteArray) (by omega) 4 (by omega) (by decide) (fun p h => (hp p h).2)) rfl) (fun t ht => evp_now (by
      subst ht
      exact ⟨joinS_vis _ (vis_lit _ (by decide)) out (fun p h => (hp p h).1), by omega⟩))))
  | succ d ih =>
    intro i out hi ho hp
    have hm : rd x0 (i : Int) ∈ x0 := by
      have hlt : i < x0.length := by omega
      have : rd x0 (i : Int) = x0[i] := by
        unfold rd
        rw [Int.toNat_natCast, List.getD_eq_getElem?_getD, List.getElem?_eq_getElem hlt]
        rfl
      rw [this]
      exact List.getElem_mem hlt
    obtain ⟨g0, g1⟩ := hu _ hm
    refine evp_step (fun k => r03_row.l0.eq_2 ..) (evp_pos (by omega) (evp_pos (by omega) ?_))
    rw [wrap_next1 i (by omega)]
    generalize rd x0 (i : Int) = g at g0 g1
    obtain ⟨u, rfl⟩ := Int.eq_ofNat_of_zero_le g0
    refine evp_bind (group_evp 3 (by omega) u (by omega) (by omega)) (fun t ht => evp_pos (by omega) (ih (i + 1) _ (by omega) (by simp [ho]) (fun p hq => ?_)))
    rcases List.mem_append.1 hq with h | h
    · exact hp p h
    · rw [List.mem_singleton.1 h]; exact ht
theorem row_evp (x0 : List Int) (h8 : x0.length ≤ 8) (hu : ∀ x ∈ x0, U16 x) : EvP (fun k => r03_row.f k x0) (VisN 64) := row_loop x0 h8 hu x0.length 0 [] (by omega) rfl (by simp)
theorem print03_evp (a b c d e f g h : Int) (ha : U16 a) (hb : U16 b) (hc : U16 c) (hd : U16 d) (he : U16 e) (hf : U16 f) (hg : U16 g) (hh : U16 h) : EvP (fun k => r03_Print.f k a b c d e f g h) (VisN 150) := by
  have hall : ∀ x ∈ [a, b, c, d, e, f, g, h], U16 x := by
    intro x hx
    simp only [List.mem_cons, List.not_mem_nil, or_false] at hx
    rcases hx with rfl | rfl | rfl | rfl | rfl | rfl | rfl | rfl <;> assumption
  have hM : VisN 7 sMap := ⟨vis_lit _ (by decide), by decide⟩
  have hD : VisN 2 sDD := ⟨vis_lit _ (by decide), by decide⟩
  have hM2 := hM.2
  have hD2 := hD.2
  unfold r03_Print.f
  refine evp_ite (fun _ => evp_bind (print02_evp _ (Int.emod_nonneg _ (by decide)) (Int.emod_lt_of_pos _ (by decide))) (fun t ht => evp_pos (by have := ht.2; omega) (evp_now ⟨hM.1.append ht.1, by rw [ByteArray.size_append]; have := ht.2; omega⟩)))
    (fun _ => evp_ite (fun _ => (row_evp _ (by simp) hall).imp (fun r hr => ⟨hr.1, by have := hr.2; omega⟩)) (fun _ => evp_bind (row_evp _ (by simp; omega) (fun x hx => hall x (List.mem_of_mem_take hx))) (fun x hx => evp_pos (by have := hx.2; omega) (evp_bind (row_evp _ (by simp) (fun x hx => hall x (List.mem_of_mem_drop hx))) (fun y hy => evp_pos ?_ (evp_now ⟨(hx.1.append hD.1).append hy.1, ?_⟩))))))
  · have := hx.2; have := hy.2; rw [ByteArray.size_append]; omega
  · have := hx.2; have := hy.2; rw [ByteArray.size_append, ByteArray.size_append]; omega
end Go.Proofs.YthjhbhgfckaklaaDoor.P
