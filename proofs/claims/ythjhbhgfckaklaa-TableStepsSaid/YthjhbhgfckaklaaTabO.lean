/-
  Find holds prefixes against one another no more often than is told.
-/
import Derived.Test.YthjhbhgfckaklaaTabJ
import Derived.Test.YthjhbhgfckaklaaTabN
namespace Go.Proofs.Ythjhbhgfckaklaa.P
open Go.RowKit Go.Proofs.YthjhbhgfckaklaaW.PrintWords Go.Proofs.YthjhbhgfckaklaaW.PrintLast Go.Proofs.YthjhbhgfckaklaaW.PrintMore
set_option linter.unusedVariables false
set_option linter.unusedSimpArgs false
theorem own_block_ne {w : World} {base n T : Nat} {te : TypeId} {v : Value} {xs : List Value} {cs : Array Value} {t : TypeId} (h : w.ownsRow base te 19 v n xs) (hT : w.heap[T]? = some (.cells cs t (0, 0))) (ht : t ≠ te) : v.ownBlock ≠ some T := by
  rcases h.2 with ⟨rfl, _⟩ | ⟨g, cap, cur, rfl, hb, hg, _⟩
  · intro e; cases e
  · intro e
    have e' : g = T := Option.some.inj e
    subst e'
    rw [hg] at hT
    cases hT
    exact ht rfl
theorem ticks_grown {T so : Nat} {w w' : World} {k : Int} (h : Ticks T so w w' k) : w.grownBy w' (some T) :=
  ⟨h.os, h.tape, h.output, h.size, fun j hj hne => h.block j hj (fun e => hne (by rw [e]))⟩
theorem tb_ticks {T base : Nat} {st k : Int} {v : Value} {l : List En} {w w' : World} (h : Tb w T base st v l) (ht : Ticks T 1 w w' k) : Tb w' T base k v l :=
  ⟨ht.same _ _ h.blk, h.row.kept (ticks_grown ht) (.inr (own_block_ne h.row h.blk (by decide))), h.ok⟩
theorem cnt_step (d k : Nat) (h0 : k ≠ 0) (c : Nat) (h : d + blen k = c) : d + 1 + blen (k / 2) = c := by
  rw [blen_pos (show 0 < k by omega)] at h
  omega
theorem steps_le (m d ln : Nat) (h1 : m ≤ 129 * (blen ln + 1)) (h2 : d = 1 + blen ln) : m ≤ 130 * d := by omega
set_option maxHeartbeats 4000000 in
set_option maxRecDepth 100000 in
theorem law_Steps (A : Option Addr) (n cap : Nat) (L : List De) (a : Ad) (ha : a.ok) (w : World) (hrd : RdD w A n cap L) :
    Calls Try.prog 7 #[.slice A n cap, .agg (eA a)] w fun r w' => r = .returned (.bool true) ∧ Below w.heap.size w w' := by
  have HA := Aside0.mk ha
  have HB := Aside0.mk (Below.refl w.heap.size w)
  have HRD := Aside0.mk hrd
  have HOG := Aside0.mk (ok_goodA ha)
  have HL := Aside0.mk (show ∀ d ∈ L.take 40, d.p.a.ok from fun x hx => by
    obtain ⟨i, hi⟩ := List.getElem?_of_mem (List.mem_of_mem_take hx)
    obtain ⟨_, _, _, _, h⟩ := hrd.at_ i x hi
    exact h)
  have HF := Aside0.mk (fine_play (L.take 40) HL.out)
  have HLK := Aside0.mk (show (playE (L.take 40)).length ≤ 40 by
    have h1 := HF.out.len
    have h2 : (L.take 40).length ≤ 40 := by rw [List.length_take]; exact Nat.min_le_left _ _
    omega)
  have HPL := Aside0.mk (fun w1 (h : RdD w1 A n cap L) => law_play A n cap L w1 h)
  obtain ⟨l, hl⟩ : ∃ l, playE (L.take 40) = l := ⟨_, rfl⟩
  rw [hl] at HF HLK HPL
  clear ha hrd hl HL
  go_enter Try.func7, Try.ntmps7
  go_wp2_with (first
    | ((with_reducible refine gate_dst (N := 3) rfl ?_); refine box_event ?hg (N := 3) ?hd (cs := eA a) (t := 34) ?hr ?_; (case hd => rfl); (case hg => rfl); (case hr => first | (go_simp; done) | (go_simp; rfl)); intro g3 hg w1 hbox hb; have HX := Aside0.mk hbox; replace HB := Aside0.mk (below_step HB.out hb); clear hb hg hbox)
    | (go_at_call 27; refine (HPL.out _ (rdD_below HRD.out HB.out)).mono ?_; rintro r w2 ⟨u, rfl, ⟨sv, ht⟩, ho, hb⟩; obtain ⟨A2, cap2, G2, rfl, hrd2⟩ := ow_rd ho HF.out.ok; have HTS := Aside0.mk HB.out.size; have HT := Aside0.mk ht; have HO := Aside0.mk ho; have HG3 := Aside0.mk (show g3 ≠ w1.heap.size by have := (Array.getElem?_eq_some_iff.1 HX.out).1; omega); replace HX := Aside0.mk (blk_below HX.out hb); replace HB := Aside0.mk (below_step HB.out hb); clear hb ht ho hrd2)
    | (go_at_call 29; refine (table_Steps _ _ 0 sv l _ HT.out).mono ?_; rintro r w3 ⟨rfl, hb⟩; replace HB := Aside0.mk (below_step HB.out hb); replace HX := Aside0.mk (blk_below HX.out hb); replace HT := Aside0.mk (tb_below HT.out hb); clear hb)
    | ((with_reducible refine gate_dst (N := 22) rfl ?_); refine wpList_load_row rfl 34 (.tmp 3) rfl g3 rfl 34 (eA a) (0, 0) _ HX.out Try.underlying34 rfl (infoE HA.out) ?_)
    | (go_at_call 17; refine (ref04_Good a HA.out _).mono ?_; rintro r w4 ⟨rfl, hb⟩; replace HB := Aside0.mk (below_step HB.out hb); replace HT := Aside0.mk (tb_below HT.out hb); clear hb)
    | (go_at_call 20; refine (table_Find _ _ 0 sv l (goodA a) HOG.out _ HT.out HF.out.sorted (Nat.le_trans HLK.out (by decide)) (by decide)).mono ?_; rintro r w5 ⟨m, rfl, hm, htk⟩; rw [Int.zero_add] at htk; replace HB := Aside0.mk (ticks_new HB.out htk HTS.out (Nat.le_refl _)); have HM := Aside0.mk hm; replace HT := Aside0.mk (tb_ticks HT.out htk); clear hm htk))
  obtain ⟨ln, hln⟩ : ∃ ln, l.length = ln := ⟨_, rfl⟩
  rw [hln] at HM HLK ⊢
  clear hln
  have HBL := Aside0.mk (show blen ln ≤ 40 from Nat.le_trans (blen_le ln) HLK.out)
  go_loopw [9, 10] (fun v9 v10 wr => ∃ (d k : Nat), v9 = .int .i64 (d : Int) ∧ v10 = .int .i64 (k : Int) ∧ Aside0 (k ≤ ln) ∧ Aside0 (d + blen k = 1 + blen ln) ∧ Aside0 (wr = w5)) (fun _ v10 _ => (intOf v10).toNat)
  case atStart => exact ⟨1, ln, rfl, rfl, ⟨Nat.le_refl _⟩, ⟨rfl⟩, ⟨rfl⟩⟩
  case round =>
    obtain ⟨d, k, rfl, rfl, HK, HD, HW⟩ := hrel
    by_cases hk : k = 0
    · have c0 : decide ((0 : Int) < (k : Int)) = false := decide_eq_false (by omega)
      have c0n : decide (0 < k) = false := decide_eq_false (by omega)
      have HT2 := Aside0.mk (show Tb wr _ _ (m : Int) sv l by rw [HW.out]; exact HT.out)
      have HB2 := Aside0.mk (show Below w.heap.size w wr by rw [HW.out]; exact HB.out)
      have HDE := Aside0.mk (show d = 1 + blen ln by have := HD.out; rw [hk, blen_zero] at this; omega)
      have HMD := Aside0.mk (steps_le m d ln HM.out HDE.out)
      have HM2 := Aside0.mk (show m ≤ 10000 by have := HM.out; have := HBL.out; omega)
      have HD2 := Aside0.mk (show d ≤ 100 by have := HDE.out; have := HBL.out; omega)
      have e1 : wrap64 (m : Int) = (m : Int) := by have := HM2.out; unfold wrap64; omega
      have e2 : wrap64 (130 * (d : Int)) = 130 * (d : Int) := by have := HD2.out; unfold wrap64; omega
      have e3 : decide ((m : Int) ≤ 130 * (d : Int)) = true := decide_eq_true (by have := HMD.out; omega)
      clear HT HW HM HB
      subst hk
      go_wp2_with (first
        | (go_at_call 29; refine (table_Steps _ _ _ sv l _ HT2.out).mono ?_; rintro r w6 ⟨rfl, hb⟩; replace HB2 := Aside0.mk (below_step HB2.out hb); replace HT2 := Aside0.mk (tb_below HT2.out hb); clear hb)
        | (go_at_call 23; refine (law_lives _).mono ?_; rintro r w7 ⟨rfl, hb⟩; replace HB2 := Aside0.mk (below_step HB2.out hb)))
      go_ret
      exact ⟨rfl, HB2.out⟩
    · have c0 : decide ((0 : Int) < (k : Int)) = true := decide_eq_true (by omega)
      have c0n : decide (0 < k) = true := decide_eq_true (by omega)
      have HE1 := Aside0.mk (show wrap64 ((d : Int) + 1) = ((d + 1 : Nat) : Int) by have h1 := HD.out; have h2 := HBL.out; unfold wrap64; omega)
      have HE2 := Aside0.mk (show wrap64 ((k : Int) / 2) = ((k / 2 : Nat) : Int) by have h1 := HK.out; have h2 := HLK.out; unfold wrap64; omega)
      go_wp2
      rw [HE1.out, HE2.out]
      exact ⟨⟨d + 1, k / 2, rfl, rfl, ⟨by have := HK.out; omega⟩, ⟨cnt_step d k hk _ HD.out⟩, HW⟩, by show (((k / 2 : Nat) : Int)).toNat < ((k : Nat) : Int).toNat; rw [Int.toNat_natCast, Int.toNat_natCast]; omega⟩
end Go.Proofs.Ythjhbhgfckaklaa.P
