/-
  Whatever is set and dropped, the answers, and all entries, are the document's (the walk).
-/
import Derived.Test.YthjhbhgfckaklaaTabT
namespace Go.Proofs.Ythjhbhgfckaklaa.P
open Go.RowKit Go.Proofs.YthjhbhgfckaklaaW.PrintWords Go.Proofs.YthjhbhgfckaklaaW.PrintLast Go.Proofs.YthjhbhgfckaklaaW.PrintMore
set_option linter.unusedVariables false
set_option linter.unusedSimpArgs false
set_option maxHeartbeats 4000000 in
set_option maxRecDepth 100000 in
theorem law_Plays (A : Option Addr) (n cap : Nat) (L : List De) (w : World) (hrd : RdD w A n cap L) :
    Calls Try.prog 9 #[.slice A n cap] w fun r w' => r = .returned (.bool true) ∧ Below w.heap.size w w' := by
  have HB := Aside0.mk (Below.refl w.heap.size w)
  have HRD := Aside0.mk hrd
  clear hrd
  go_enter Try.func9, Try.ntmps9
  go_wp2_with (first
    | (go_at_call 18; refine (new_none _).mono ?_; rintro r w1 ⟨rfl, ht, hb⟩; have HT := Aside0.mk ht; replace HB := Aside0.mk (below_step HB.out hb); clear ht hb))
  go_loopw [4, 5] (fun v4 v5 wr => ∃ (k : Nat) (u : Value), v4 = u ∧ v5 = .int .i64 (k : Int) ∧ Aside0 (k ≤ 40 ∧ k ≤ L.length) ∧ Aside0 (∃ sv, Tb wr w.heap.size w.heap.size 0 sv (playE (L.take k))) ∧ Aside0 (Ow wr u (playE (L.take k))) ∧ Aside0 (Below w.heap.size w wr)) (fun _ v5 _ => 41 - (intOf v5).toNat)
  case atStart => exact ⟨0, _, rfl, rfl, ⟨Nat.zero_le _, Nat.zero_le _⟩, HT, ⟨World.ownsRow_nil _ _ _ _⟩, HB⟩
  case round =>
    clear HT HB
    obtain ⟨k, u, rfl, rfl, HK, HT, HO, HB⟩ := hrel
    have HLN := Aside0.mk HRD.out.len
    by_cases hlt : k < L.length
    · have c0 : decide ((k : Int) < (n : Int)) = true := decide_eq_true (by have := HLN.out; omega)
      have c0n : decide (k < n) = true := decide_eq_true (by have := HLN.out; omega)
      by_cases h40 : k < 40
      · have c1n : decide (k < 40) = true := decide_eq_true h40
        have c1 : decide ((k : Int) < 40) = true := decide_eq_true (by omega)
        obtain ⟨d, hd⟩ : ∃ d, L[k]? = some d := ⟨L[k], List.getElem?_eq_getElem hlt⟩
        obtain ⟨G, o, hidx, hrg, hdok⟩ := HRD.out.at_ k d hd
        have HRG := Aside0.mk (range_below hrg HB.out)
        have HDO := Aside0.mk hdok
        have HSN := Aside0.mk (show doE (playE (L.take k)) d = playE (L.take (k + 1)) by rw [List.take_add_one, hd]; exact (playE_snoc _ _).symm)
        have HF := Aside0.mk (fine_play (L.take k) (fun x hx => by
          obtain ⟨i, hi⟩ := List.getElem?_of_mem (List.mem_of_mem_take hx)
          obtain ⟨_, _, _, _, h⟩ := HRD.out.at_ i x hi
          exact h))
        have HLK := Aside0.mk (show (playE (L.take k)).length ≤ 800 by
          have h1 := HF.out.len
          have h2 : (L.take k).length ≤ k := by rw [List.length_take]; exact Nat.min_le_left _ _
          omega)
        have HLK2 := Aside0.mk (show (playE (L.take (k + 1))).length ≤ 900 by
          rw [← HSN.out]
          have h1 := (fine_do HF.out HDO.out).len
          have h2 : (L.take k).length ≤ k := by rw [List.length_take]; exact Nat.min_le_left _ _
          omega)
        clear hd hrg hdok
        go_wp2_with (first
          | ((with_reducible refine gate_dst (N := 27) rfl ?_); refine wpList_load_mid rfl 53 (.tmp 26) rfl G o rfl (lD d) _ HRG.out Try.underlying53 rfl (lD_info HDO.out) ?_)
          | (go_at_call 32; obtain ⟨sv, ht⟩ := HT.out; refine (law_does w.heap.size w.heap.size 0 sv _ (playE (L.take k)) d HDO.out _ ht HO.out HF.out.sorted (Nat.le_trans HLK.out (by decide)) HB.out.size).mono ?_; rintro r w2 ⟨u2, rfl, ht2, ho2, hch⟩; rw [HSN.out] at ht2 ho2; obtain ⟨sv2, ht2⟩ := ht2; have HT2 := Aside0.mk ht2; have HO2 := Aside0.mk ho2; have HB2 := Aside0.mk (HB.out.trans (chg_base hch (Nat.le_refl _) HB.out.size)); clear ht ht2 ho2 hch)
          | (go_at_call 26; refine (law_like w.heap.size w.heap.size 0 sv2 u2 (playE (L.take (k + 1))) HLK2.out _ HT2.out HO2.out).mono ?_; rintro r w3 ⟨rfl, hb⟩; replace HT2 := Aside0.mk (tb_below HT2.out hb); replace HO2 := Aside0.mk (own_below HO2.out hb); replace HB2 := Aside0.mk (below_step HB2.out hb); clear hb))
        exact ⟨⟨k + 1, u2, rfl, congrArg (Value.int .i64) (by omega), ⟨by omega⟩, ⟨sv2, HT2.out⟩, HO2, HB2⟩, measure_up 41 k _ (by omega) (by omega)⟩
      · have c1n : decide (k < 40) = false := decide_eq_false h40
        have c1 : decide ((k : Int) < 40) = false := decide_eq_false (by omega)
        clear HRD HT HO
        go_wp2_with (first
          | (go_at_call 23; refine (law_lives _).mono ?_; rintro r w15 ⟨rfl, hb⟩; replace HB := Aside0.mk (below_step HB.out hb); clear hb))
        all_goals (go_ret; exact ⟨rfl, HB.out⟩)
    · have c0 : decide ((k : Int) < (n : Int)) = false := decide_eq_false (by have := HLN.out; omega)
      have c0n : decide (k < n) = false := decide_eq_false (by have := HLN.out; omega)
      clear HRD HT HO
      go_wp2_with (first
        | (go_at_call 23; refine (law_lives _).mono ?_; rintro r w15 ⟨rfl, hb⟩; replace HB := Aside0.mk (below_step HB.out hb); clear hb))
      all_goals (go_ret; exact ⟨rfl, HB.out⟩)
end Go.Proofs.Ythjhbhgfckaklaa.P
