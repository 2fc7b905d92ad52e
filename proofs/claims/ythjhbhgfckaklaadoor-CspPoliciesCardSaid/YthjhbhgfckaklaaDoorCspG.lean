/-
  The contract of csp.Public: whether a policy of the headers has the directive.
-/
import Derived.Test.YthjhbhgfckaklaaDoorCspF
import Derived.Test.YthjhbhgfckaklaaDoorPH11
namespace Go.Proofs.YthjhbhgfckaklaaDoor.P
open Go.RowKit Go.Proofs.YthjhbhgfckaklaaDoorW.PrintWords Go.Proofs.YthjhbhgfckaklaaDoorW.PrintLast Go.Proofs.YthjhbhgfckaklaaDoorW.PrintMore
set_option linter.unusedVariables false
set_option linter.unusedSimpArgs false

def pubWord : ByteArray := ⟨#[116, 114, 101, 97, 116, 45, 97, 115, 45, 112, 117, 98, 108, 105, 99, 45, 97, 100, 100, 114, 101, 115, 115]⟩
def hasPub (l : List S79) : Option Bool := (csp_Find.f l pubWord).bind fun x => some x.2
/-- Where the first policy with the directive stands, reckoned from i; -1: nowhere. -/
def pubFrom : List (List S79) → Int → Option Int
  | [], _ => some (-1)
  | p :: l, i => (hasPub p).bind fun b => if b = true then some i else pubFrom l (i + 1)

set_option maxRecDepth 100000 in
theorem public_is (A : Option Addr) (c : Nat) (l : List S79) (b : Bool) (w : World) (hr : Kd.C k79 w A l.length l) (hc : l.length ≤ c) (h : hasPub l = some b) :
    Calls Tryd.prog 41 #[.slice A l.length c] w fun e w' => e = .returned (.bool b) ∧ Below w.heap.size w w' := by
  unfold hasPub at h
  obtain ⟨⟨r1, r2⟩, hf, h⟩ := Option.bind_eq_some_iff.mp h
  obtain rfl : r2 = b := Option.some.inj h
  have HF := Aside0.mk hf
  have HR := Aside0.mk hr
  have HC := Aside0.mk hc
  clear h hf hr hc
  go_enter Tryd.func41, Tryd.ntmps41
  go_wp2_with (go_at_call 42; refine (csp_Find.calls A c l pubWord r1 r2 _ HR.out HC.out HF.out).mono ?_; rintro e w' ⟨v, rfl, _, hB⟩)
  go_ret
  exact ⟨rfl, hB⟩

set_option maxHeartbeats 2000000 in
set_option maxRecDepth 100000 in
theorem public_index (A0 : Option Addr) (c0 : Nat) (l0 : List (List S79)) (r : Int) (w : World) (hr0 : Kd.C (Kd.slice 79 k79) w A0 l0.length l0) (hc0 : l0.length ≤ c0)
    (h : pubFrom l0 0 = some r) :
    Calls Tryd.prog 76 #[.slice A0 l0.length c0, .func (.func 41) #[] #[]] w fun e w' => e = .returned (.int .i64 r) ∧ Below w.heap.size w w' := by
  have HR0 := Aside0.mk hr0
  have HC0 := Aside0.mk hc0
  have H := Aside0.mk h
  have HN := Aside0.mk hr0.2.1
  clear hr0 hc0 h
  have eg : ∀ args w, (callFunc 41 args).run Tryd.prog w = .ok (.enter 41 args) w := enters_of Tryd.func41 (by kernel_rfl) rfl
  go_enter Tryd.func76, Tryd.ntmps76
  go_wp2
  go_loopw [8] (fun v8 w' => ∃ i : Nat, v8 = .int .i64 (i : Int) ∧ Aside0 (pubFrom (l0.drop i) (i : Int) = some r) ∧ Aside0 (i ≤ l0.length) ∧ Aside0 (Below w.heap.size w w')) (fun v8 _ => l0.length - (intOf v8).toNat)
  case atStart => exact ⟨0, rfl, ⟨by rw [List.drop_zero]; exact H.out⟩, ⟨Nat.zero_le _⟩, ⟨Below.refl _ _⟩⟩
  case round =>
    clear H
    obtain ⟨i, rfl, HA, HI, HB⟩ := hrel
    by_cases hlt : i < l0.length
    · have c3b0 : decide ((i : Int) < (l0.length : Int)) = true := decide_eq_true (by omega)
      have c3b1 : decide (i < l0.length) = true := decide_eq_true hlt
      have c3b2 : (0 : Int) ≤ (i : Int) := Int.natCast_nonneg i
      obtain ⟨ad, A1, c1, e133, hx0, hl1, hi1⟩ := at_LKd_slice_79_k79 HR0.out (i : Int) c3b2 (by omega)
      cases e133
      replace hx0 := (HB.out.cell (World.block_lt_of_cell? w _ hx0)).trans hx0
      rw [Int.toNat_natCast] at hx0
      have HL1 := Aside0.mk hl1
      have HI1 := Aside0.mk (Kd.C_below hi1 HB.out)
      clear hi1 hl1
      have hd : l0.drop i = rd_LKd_slice_79_k79 l0 (i : Int) :: l0.drop (i + 1) := by
        rw [List.drop_eq_getElem_cons hlt]
        congr 1
        unfold rd_LKd_slice_79_k79
        rw [Int.toNat_natCast, List.getD_eq_getElem?_getD, List.getElem?_eq_getElem hlt]
        rfl
      have hA := HA.out
      rw [hd] at hA
      unfold pubFrom at hA
      obtain ⟨b, hb, hA⟩ := Option.bind_eq_some_iff.mp hA
      have HLK := Aside0.mk hb
      have HA2 := Aside0.mk hA
      clear hb hA HA hd
      replace c3b2 := eq_true c3b2
      cases b with
      | true =>
        have HR := Aside0.mk (Option.some.inj ((if_pos rfl).symm.trans HA2.out))
        go_wp2_with (go_at_call 41; refine (public_is A1 c1 _ true _ HI1.out HL1.out HLK.out).mono ?_; rintro e w' ⟨rfl, hB⟩)
        go_ret
        exact ⟨by rw [← HR.out]; rfl, HB.out.trans (hB.mono HB.out.size)⟩
      | false =>
        have HR := Aside0.mk ((if_neg (show ¬ (false = true) by decide)).symm.trans HA2.out)
        go_wp2_with (go_at_call 41; refine (public_is A1 c1 _ false _ HI1.out HL1.out HLK.out).mono ?_; rintro e w' ⟨rfl, hB⟩)
        have e1 := wrap_next i (Nat.lt_of_lt_of_le hlt HN.out)
        go_roundw
        case rel => exact ⟨i + 1, congrArg (Value.int .i64) e1, ⟨HR.out⟩, ⟨hlt⟩, ⟨HB.out.trans (hB.mono HB.out.size)⟩⟩
        case measure => exact measure_next l0.length i _ e1 hlt
    · have c3b0 : decide ((i : Int) < (l0.length : Int)) = false := decide_eq_false (by omega)
      have c3b1 : decide (i < l0.length) = false := decide_eq_false hlt
      have hA := HA.out
      rw [List.drop_of_length_le (by omega)] at hA
      have HR := Aside0.mk (Option.some.inj hA)
      clear hA HA
      go_wp2
      go_ret
      exact ⟨by rw [← HR.out]; rfl, HB.out⟩

set_option maxRecDepth 100000 in
theorem public_contains (A0 : Option Addr) (c0 : Nat) (l0 : List (List S79)) (r : Int) (w : World) (hr0 : Kd.C (Kd.slice 79 k79) w A0 l0.length l0) (hc0 : l0.length ≤ c0)
    (h : pubFrom l0 0 = some r) :
    Calls Tryd.prog 40 #[.slice A0 l0.length c0, .func (.func 41) #[] #[]] w fun e w' => e = .returned (.bool (decide (0 ≤ r))) ∧ Below w.heap.size w w' := by
  have HR0 := Aside0.mk hr0
  have HC0 := Aside0.mk hc0
  have H := Aside0.mk h
  clear hr0 hc0 h
  go_enter Tryd.func40, Tryd.ntmps40
  go_wp2_with (go_at_call 76; refine (public_index A0 c0 l0 r _ HR0.out HC0.out H.out).mono ?_; rintro e w' ⟨rfl, hB⟩)
  go_ret
  exact ⟨rfl, hB⟩

-- EXT abatis/csp.Public {"rounds": 1, "making": 1}
def csp_Public.f (k : Nat) (l0 : List S25) : Option Bool := (csp_Policies.f k l0).bind fun p => (pubFrom p 0).bind fun r => some (decide (0 ≤ r))
theorem csp_Public.mono : ∀ l0 k, LeO (csp_Public.f k l0) (csp_Public.f (k + 1) l0) := fun l0 k => LeO.bind (csp_Policies.mono l0 k) (fun _ => LeO.refl _)
set_option maxRecDepth 100000 in
theorem csp_Public.calls (k : Nat) (A0 : Option Addr) (c0 : Nat) (l0 : List S25) (r : Bool) (w : World) (hr0 : Kd.C k25 w A0 l0.length l0) (hc0 : l0.length ≤ c0) (h : csp_Public.f k l0 = some r) :
    Calls Tryd.prog 13 #[.slice A0 l0.length c0] w fun e w' => e = .returned (.bool r) ∧ Below w.heap.size w w' := by
  unfold csp_Public.f at h
  obtain ⟨p, hp, h⟩ := Option.bind_eq_some_iff.mp h
  obtain ⟨q, hq, h⟩ := Option.bind_eq_some_iff.mp h
  have HR0 := Aside0.mk hr0
  have HC0 := Aside0.mk hc0
  have HP := Aside0.mk hp
  have HQ := Aside0.mk hq
  obtain rfl := Option.some.inj h
  clear hr0 hc0 h hp hq
  go_enter Tryd.func13, Tryd.ntmps13
  go_wp2_with (first
    | (go_at_call 9; refine (csp_Policies.calls k A0 c0 l0 p _ HR0.out HC0.out HP.out).mono ?_; rintro e w1 ⟨v, rfl, hN, hB⟩; obtain ⟨A1, c1, e1, hl1, hr1⟩ := Kd.N_reads hN; subst e1; have HB1 := Aside0.mk hB; have HL1 := Aside0.mk hl1; have HR1 := Aside0.mk hr1; clear hN hB hl1 hr1)
    | (go_at_call 40; refine (public_contains A1 c1 p q _ HR1.out HL1.out HQ.out).mono ?_; rintro e w2 ⟨rfl, hB2⟩))
  go_ret
  exact ⟨rfl, HB1.out.trans (hB2.mono HB1.out.size)⟩
end Go.Proofs.YthjhbhgfckaklaaDoor.P
