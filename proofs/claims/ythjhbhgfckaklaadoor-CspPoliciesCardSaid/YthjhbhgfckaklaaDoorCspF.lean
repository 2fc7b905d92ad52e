/-
  The contract of csp.Find: the values of the first directive of a name.
-/
import Derived.Test.YthjhbhgfckaklaaDoorBase
import Derived.Test.YthjhbhgfckaklaaDoorShelf
import Derived.Test.YthjhbhgfckaklaaDoorPL11
import Derived.Shelf.Abstract
namespace Go.Proofs.YthjhbhgfckaklaaDoor.P
open Go.RowKit Go.Proofs.YthjhbhgfckaklaaDoorW.PrintWords Go.Proofs.YthjhbhgfckaklaaDoorW.PrintLast Go.Proofs.YthjhbhgfckaklaaDoorW.PrintMore
set_option linter.unusedVariables false
set_option linter.unusedSimpArgs false

/-- Where the first directive of a name stands, reckoned from i; -1: nowhere. -/
def idxFrom (n : ByteArray) : List S79 → Int → Option Int
  | [], _ => some (-1)
  | d :: l, i => (text_Like.f d.f0 n).bind fun b => if b = true then some i else idxFrom n l (i + 1)

theorem wrap_next (i : Nat) (h : i < 9223372036854775807) : wrap64 ((i : Int) + 1) = ((i + 1 : Nat) : Int) := by unfold wrap64; omega
/-- A loop's measure, as a law of its own: the kernel looks into no number. -/
theorem measure_next (L i : Nat) (z : Int) (h : z = ((i + 1 : Nat) : Int)) (hlt : i < L) : L - (intOf (.int .i64 z)).toNat < L - (intOf (.int .i64 (i : Int))).toNat := by
  subst h
  show L - (((i + 1 : Nat) : Int)).toNat < L - ((i : Nat) : Int).toNat
  rw [Int.toNat_natCast, Int.toNat_natCast]
  omega
set_option maxRecDepth 100000 in
theorem find_is (d : S79) (A1 : Option Addr) (c1 : Nat) (n : ByteArray) (b : Bool) (c : Nat) (w : World) (hc : w.cell? ⟨c, 0, none⟩ = some (.string n)) (h : text_Like.f d.f0 n = some b) :
    Calls Tryd.prog 78 #[.agg #[.string d.f0, .slice A1 d.f1.length c1], .pointer (some ⟨c, 0, none⟩)] w fun e w' => e = .returned (.bool b) ∧ Below w.heap.size w w' := by
  have H := Aside0.mk h
  have hlt := World.block_lt_of_cell? w _ hc
  have HL := Aside0.mk hlt
  have hc2 : (w.alloc (.cells #[.string d.f0, .slice A1 d.f1.length c1] 79)).cell? ⟨c, 0, none⟩ = some (.string n) := Lib.cell?_alloc_some _ hc
  clear h hlt
  go_enter Tryd.func78, Tryd.ntmps78
  go_wp2_with (go_at_call 79; refine (text_Like.calls d.f0 n b _ H.out).mono ?_; rintro e w' ⟨rfl, hB⟩)
  go_ret
  exact ⟨rfl, ((Below.refl _ w).alloc (Nat.le_refl _) _).trans (hB.mono (by simp))⟩

set_option maxHeartbeats 2000000 in
set_option maxRecDepth 100000 in
theorem find_index (A0 : Option Addr) (c0 : Nat) (l0 : List S79) (n : ByteArray) (r : Int) (c : Nat) (w : World) (hr0 : Kd.C k79 w A0 l0.length l0) (hc0 : l0.length ≤ c0)
    (hc : w.cell? ⟨c, 0, none⟩ = some (.string n)) (h : idxFrom n l0 0 = some r) :
    Calls Tryd.prog 77 #[.slice A0 l0.length c0, .func (.func 78) #[] #[.pointer (some ⟨c, 0, none⟩)]] w fun e w' => e = .returned (.int .i64 r) ∧ Below w.heap.size w w' := by
  have HR0 := Aside0.mk hr0
  have HC0 := Aside0.mk hc0
  have HC := Aside0.mk hc
  have H := Aside0.mk h
  have HN := Aside0.mk hr0.2.1
  clear hr0 hc0 hc h
  have eg : ∀ args w, (callFunc 78 args).run Tryd.prog w = .ok (.enter 78 args) w := enters_of Tryd.func78 (by kernel_rfl) rfl
  go_enter Tryd.func77, Tryd.ntmps77
  go_wp2
  go_loopw [8] (fun v8 w' => ∃ i : Nat, v8 = .int .i64 (i : Int) ∧ Aside0 (idxFrom n (l0.drop i) (i : Int) = some r) ∧ Aside0 (i ≤ l0.length) ∧ Aside0 (Below w.heap.size w w')) (fun v8 _ => l0.length - (intOf v8).toNat)
  case atStart => exact ⟨0, rfl, ⟨by rw [List.drop_zero]; exact H.out⟩, ⟨Nat.zero_le _⟩, ⟨Below.refl _ _⟩⟩
  case round =>
    clear H
    obtain ⟨i, rfl, HA, HI, HB⟩ := hrel
    by_cases hlt : i < l0.length
    · have c3b0 : decide ((i : Int) < (l0.length : Int)) = true := decide_eq_true (by omega)
      have c3b1 : decide (i < l0.length) = true := decide_eq_true hlt
      have c3b2 : (0 : Int) ≤ (i : Int) := Int.natCast_nonneg i
      obtain ⟨ad, A1, c1, e133, hx0, hx1, hl1, hi1⟩ := at_T79 HR0.out (i : Int) c3b2 (by omega)
      cases e133
      replace hx0 := (HB.out.cell (World.block_lt_of_cell? w _ hx0)).trans hx0
      replace hx1 := (HB.out.cell (World.block_lt_of_cell? w _ hx1)).trans hx1
      rw [Int.toNat_natCast] at hx0 hx1
      have hcw := (HB.out.cell (World.block_lt_of_cell? w _ HC.out)).trans HC.out
      have HCW := Aside0.mk hcw
      clear hi1 hl1 hcw
      have hd : l0.drop i = rd_T79 l0 (i : Int) :: l0.drop (i + 1) := by
        rw [List.drop_eq_getElem_cons hlt]
        congr 1
        unfold rd_T79
        rw [Int.toNat_natCast, List.getD_eq_getElem?_getD, List.getElem?_eq_getElem hlt]
        rfl
      have hA := HA.out
      rw [hd] at hA
      unfold idxFrom at hA
      obtain ⟨b, hb, hA⟩ := Option.bind_eq_some_iff.mp hA
      have HLK := Aside0.mk hb
      have HA2 := Aside0.mk hA
      clear hb hA HA hd
      replace c3b2 := eq_true c3b2
      cases b with
      | true =>
        have HR := Aside0.mk (Option.some.inj ((if_pos rfl).symm.trans HA2.out))
        go_wp2_with (go_at_call 78; refine (find_is (rd_T79 l0 (i : Int)) A1 c1 n true c _ HCW.out HLK.out).mono ?_; rintro e w' ⟨rfl, hB⟩)
        go_ret
        exact ⟨by rw [← HR.out]; rfl, HB.out.trans (hB.mono HB.out.size)⟩
      | false =>
        have HR := Aside0.mk ((if_neg (show ¬ (false = true) by decide)).symm.trans HA2.out)
        go_wp2_with (go_at_call 78; refine (find_is (rd_T79 l0 (i : Int)) A1 c1 n false c _ HCW.out HLK.out).mono ?_; rintro e w' ⟨rfl, hB⟩)
        have e1 := wrap_next i (Nat.lt_of_lt_of_le hlt HN.out)
        go_roundw
        case rel => exact ⟨i + 1, congrArg (Value.int .i64) e1, ⟨HR.out⟩, ⟨hlt⟩, ⟨HB.out.trans (hB.mono HB.out.size)⟩⟩
        case measure => exact measure_next l0.length i _ e1 hlt
    · have c3b0 : decide ((i : Int) < (l0.length : Int)) = false := decide_eq_false (by omega)
      have c3b1 : decide (i < l0.length) = false := decide_eq_false hlt
      have hA := HA.out
      rw [List.drop_of_length_le (by omega)] at hA
      have HR := Aside0.mk (Option.some.inj hA)
      clear hA HA
      go_wp2
      go_ret
      exact ⟨by rw [← HR.out]; rfl, HB.out⟩

-- EXT abatis/csp.Find {"rounds": 0, "making": 1}
def csp_Find.f (l0 : List S79) (a1 : ByteArray) : Option (List ByteArray × Bool) :=
  (idxFrom a1 l0 0).bind fun i => if i < 0 then some ([], false) else if i < (l0.length : Int) then (if (rd_T79 l0 i).f1.length ≤ 1000000 then some ((rd_T79 l0 i).f1, true) else none) else none

set_option maxRecDepth 100000 in
theorem clone_strings (A : Option Addr) (c : Nat) (xs : List ByteArray) (w : World) (h : Kd.string.C w A xs.length xs) (hl : xs.length ≤ 1000000) :
    Calls Tryd.prog 80 #[.slice A xs.length c] w fun e w' => ∃ v0_ : Value, e = .returned v0_ ∧ Kd.R Kd.string 9 w' w.heap.size (fun _ => True) v0_ xs ∧ Below w.heap.size w w' := by
  cases A with
  | none =>
    have hx : xs = [] := by
      cases xs with
      | nil => rfl
      | cons x l =>
        obtain ⟨ad, e, _⟩ := h.2.2 (by simp)
        cases e
    subst hx
    refine (Tryd.slices_Clone_string_nil _ c w).mono fun e w' ⟨he, hw⟩ => ?_
    subst hw
    exact ⟨_, he, Kd.R_nil _ _ _ _ _, Below.refl _ _⟩
  | some ad =>
    by_cases hx : xs = []
    · subst hx
      refine (Tryd.slices_Clone_string_zero ad c w).mono fun e w' ⟨v, he, ho, _, hb⟩ => ?_
      exact ⟨v, he, Kd.R_of_own ho (fun _ _ => trivial), hb⟩
    · have hpos : 0 < xs.length := List.length_pos_iff.mpr hx
      have hat : ∀ j : Nat, j < xs.length → w.cell? (ad.add j) = some (.string (xs.getD j ByteArray.empty)) := by
        intro j hj
        obtain ⟨ad', e, hc⟩ := Kd.at_string h (j : Int) (Int.natCast_nonneg j) (by omega)
        cases e
        rw [Int.toNat_natCast] at hc
        unfold rdOf at hc
        rw [Int.toNat_natCast] at hc
        exact hc
      have hsp : ad.spot = none := by
        have h0 := hat 0 hpos
        unfold World.cell? at h0
        split at h0
        · split at h0
          · cases h0
          · rename_i hs
            cases he : ad.spot with
            | none => rfl
            | some z =>
              exfalso
              apply hs
              show (ad.add 0).spot.isSome = true
              simp [Addr.add, he]
        · cases h0
      obtain ⟨b, off, spot⟩ := ad
      simp only at hsp
      subst hsp
      refine (Tryd.slices_Clone_string b off xs.length c xs w (Nat.le_refl _) (by omega) (fun j hj => by have z := hat j hj; rw [Addr.add_lit] at z; exact z)).mono fun e w' ⟨v, he, ho, _, hb⟩ => ?_
      rw [List.take_length] at ho
      exact ⟨v, he, Kd.R_of_own ho (fun _ _ => trivial), hb⟩

set_option maxHeartbeats 2000000 in
set_option maxRecDepth 100000 in
theorem csp_Find.calls (A0 : Option Addr) (c0 : Nat) (l0 : List S79) (a1 : ByteArray) (r1 : List ByteArray) (r2 : Bool) (w : World) (hr0 : Kd.C k79 w A0 l0.length l0) (hc0 : l0.length ≤ c0) (h : csp_Find.f l0 a1 = some (r1, r2)) :
    Calls Tryd.prog 42 #[.slice A0 l0.length c0, .string a1] w fun e w' => ∃ v0_ : Value, e = .returned (.tuple #[v0_, .bool r2]) ∧ Kd.R Kd.string 9 w' w.heap.size (fun _ => True) v0_ r1 ∧ Below w.heap.size w w' := by
  unfold csp_Find.f at h
  obtain ⟨i, hi, h⟩ := Option.bind_eq_some_iff.mp h
  have HI := Aside0.mk hi
  have hb0 : Below w.heap.size w (w.alloc (.cells #[.string a1] 9)) := (Below.refl _ w).alloc (Nat.le_refl _) _
  have HB0 := Aside0.mk hb0
  have HR1 := Aside0.mk (Kd.C_below hr0 hb0)
  have hcn : (w.alloc (.cells #[.string a1] 9)).cell? ⟨w.heap.size, 0, none⟩ = some (.string a1) := by
    have hnew : (w.alloc (.cells #[.string a1] 9)).heap[w.heap.size]? = some (.cells #[.string a1] 9 (0, 0)) := by
      show (w.heap.push _)[w.heap.size]? = _
      rw [Array.getElem?_push, if_pos rfl]
    unfold World.cell?
    simp only [hnew]
    rfl
  have HCN := Aside0.mk hcn
  have HC0 := Aside0.mk hc0
  clear hi hb0 hr0 hcn hc0
  by_cases c3 : i < 0
  · rw [if_pos c3] at h
    have c3b0 : decide (i < 0) = true := decide_eq_true c3
    clear c3
    simp only [Option.some.injEq, Prod.mk.injEq] at h
    obtain ⟨rfl, rfl⟩ := h
    go_enter Tryd.func42, Tryd.ntmps42
    go_wp2_with (go_at_call 77; refine (find_index A0 c0 l0 a1 i w.heap.size _ HR1.out HC0.out HCN.out HI.out).mono ?_; rintro e w' ⟨rfl, hB⟩)
    go_ret2
    exact ⟨_, rfl, Kd.R_nil _ _ _ _ _, HB0.out.trans (hB.mono (by simp))⟩
  · rw [if_neg c3] at h
    have c3b0 : decide (i < 0) = false := decide_eq_false c3
    by_cases c4 : i < (l0.length : Int)
    case neg => rw [if_neg c4] at h; exact absurd h (by simp)
    rw [if_pos c4] at h
    by_cases c5 : (rd_T79 l0 i).f1.length ≤ 1000000
    case neg => rw [if_neg c5] at h; exact absurd h (by simp)
    rw [if_pos c5] at h
    have HL := Aside0.mk c5
    clear c5
    simp only [Option.some.injEq, Prod.mk.injEq] at h
    obtain ⟨rfl, rfl⟩ := h
    have p1 : 0 ≤ i := by omega
    obtain ⟨ad, A1, c1, e1, hx0, hx1, hl1, hi1⟩ := at_T79 HR1.out i p1 c4
    cases e1
    have HX1 := Aside0.mk hx1
    have HI1 := Aside0.mk hi1
    clear hx0 hx1 hi1 hl1
    have q1 := eq_true p1
    have q2 : decide (i < (l0.length : Int)) = true := decide_eq_true c4
    replace c4 := eq_true c4
    clear c3 p1
    go_enter Tryd.func42, Tryd.ntmps42
    go_wp2_with (first | (go_at_call 77; refine (find_index (some ad) c0 l0 a1 i w.heap.size _ HR1.out HC0.out HCN.out HI.out).mono ?_; rintro e w' ⟨rfl, hB⟩; have hx := (hB.cell (World.block_lt_of_cell? _ _ HX1.out)).trans HX1.out; have HB1 := Aside0.mk hB; clear hB) | (go_at_call 80; refine (clone_strings A1 c1 (rd_T79 l0 i).f1 _ (Kd.C_below HI1.out HB1.out) HL.out).mono ?_; rintro e w2 ⟨v, rfl, ho, hB2⟩))
    go_ret2
    refine ⟨v, rfl, Kd.R_lower ho ?_, ?_⟩
    · have := HB1.out.size; simp at this; omega
    · exact (HB0.out.trans (HB1.out.mono (by simp))).trans (hB2.mono (by have := HB1.out.size; simp at this; omega))
end Go.Proofs.YthjhbhgfckaklaaDoor.P
