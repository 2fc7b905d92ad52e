/-
  A table behind deeds.
-/
import Derived.Test.YthjhbhgfckaklaaTabM
namespace Go.Proofs.Ythjhbhgfckaklaa.P
open Go.RowKit Go.Proofs.YthjhbhgfckaklaaW.PrintWords Go.Proofs.YthjhbhgfckaklaaW.PrintLast Go.Proofs.YthjhbhgfckaklaaW.PrintMore
set_option linter.unusedVariables false
set_option linter.unusedSimpArgs false
/-- A slice that reads as these deeds. -/
structure RdD (w : World) (A : Option Addr) (n cap : Nat) (L : List De) : Prop where
  len : L.length = n
  at_ : ∀ (i : Nat) (d : De), L[i]? = some d → ∃ G o, (∀ w : World, (Instr.indexAt 49 (.slice A n cap) (.int .i64 (i : Int))).run Try.prog w = .ok (.pointer (some ⟨G, o, none⟩)) w) ∧ w.rangeAt G o (lD d) ∧ d.p.a.ok
theorem rdD_below {w w' : World} {A : Option Addr} {n cap : Nat} {L : List De} (h : RdD w A n cap L) (hb : Below w.heap.size w w') : RdD w' A n cap L :=
  ⟨h.len, fun i d hd => by obtain ⟨G, o, h1, h2, h3⟩ := h.at_ i d hd; exact ⟨G, o, h1, range_below h2 hb, h3⟩⟩
def playE (L : List De) : List En := L.foldl doE []
theorem playE_snoc (L : List De) (d : De) : playE (L ++ [d]) = doE (playE L) d := by unfold playE; rw [List.foldl_append]; rfl
theorem ok_dropE' {l : List En} (hl : okE l) (p : Pf) : okE (dropE l p) := fun e he => hl e ((List.mem_filter.1 he).1)
theorem dropE_len (l : List En) (p : Pf) : (dropE l p).length ≤ l.length := List.length_filter_le _ _
theorem may_setE {l : List En} (hm : ∀ e ∈ l, mayP e.p = true) {p : Pf} (hp : mayP p = true) (v : Int) : ∀ e ∈ setE l p v, mayP e.p = true := fun e he => by
  unfold setE at he
  rcases List.mem_append.1 he with he | he
  · exact hm e ((List.mem_filter.1 he).1)
  · rcases List.mem_cons.1 he with rfl | he
    · exact hp
    · exact hm e ((List.mem_filter.1 he).1)
/-- What a list of entries always is. -/
structure Fine (l : List En) (n : Nat) : Prop where
  ok : okE l
  sorted : Sorted l
  may : ∀ e ∈ l, mayP e.p = true
  len : l.length ≤ n
theorem fine_nil : Fine [] 0 := ⟨fun e he => (by cases he), List.Pairwise.nil, fun e he => (by cases he), Nat.le_refl _⟩
theorem fine_set {l : List En} {n : Nat} (h : Fine l n) {p : Pf} (hp : p.a.ok) (v : Int) : Fine (if mayQ p = true then setE l p v else l) (n + 1) := by
  split
  · rename_i hm
    rw [may_same hp] at hm
    exact ⟨ok_setE h.ok hp v, sorted_setE h.ok h.sorted hp v, may_setE h.may hm v, Nat.le_trans (setE_length l p v) (Nat.succ_le_succ h.len)⟩
  · exact ⟨h.ok, h.sorted, h.may, Nat.le_succ_of_le h.len⟩
theorem fine_do {l : List En} {n : Nat} (h : Fine l n) {d : De} (hd : d.p.a.ok) : Fine (doE l d) (n + 1) := by
  unfold doE
  split
  · exact fine_set h (ok_pfD hd) d.v
  · split
    · exact ⟨ok_dropE' h.ok _, List.Pairwise.filter _ h.sorted, fun e he => h.may e ((List.mem_filter.1 he).1), Nat.le_succ_of_le (Nat.le_trans (dropE_len _ _) h.len)⟩
    · exact ⟨h.ok, h.sorted, h.may, Nat.le_succ_of_le h.len⟩
theorem fine_play : ∀ (L : List De), (∀ d ∈ L, d.p.a.ok) → Fine (playE L) L.length := by
  have h : ∀ (L : List De) (l : List En) (n : Nat), (∀ d ∈ L, d.p.a.ok) → Fine l n → Fine (L.foldl doE l) (n + L.length) := by
    intro L
    induction L with
    | nil => exact fun l n _ h => h
    | cons d L ih =>
      intro l n hL h
      have := ih (doE l d) (n + 1) (fun x hx => hL x (List.mem_cons_of_mem _ hx)) (fine_do h (hL d (List.mem_cons_self ..)))
      rw [List.length_cons]
      rw [show n + (L.length + 1) = n + 1 + L.length by omega]
      exact this
  intro L hL
  have := h L [] 0 hL fine_nil
  rw [Nat.zero_add] at this
  exact this
theorem may_nb {l : List En} {n : Nat} (h : Fine l n) : ∀ e ∈ l, e.p.n ≤ 1000000 := fun e he => by
  have := mayP_facts (h.may e he)
  have hb := bitsOf_le e.p.a.fam
  omega
theorem chg_base {T base : Nat} {w w' : World} (h : Chg T base w w') (hT : base ≤ T) (hb : base ≤ w.heap.size) : Below base w w' := chg_below' h hT hb
theorem lD_info {d : De} (h : d.p.a.ok) : (Try.prog.info? 53).map (·.size) = some (lD d).length := by rw [lD_len h]; kernel_rfl
theorem wrap_up (k : Nat) (h : k ≤ 1000000) : IntKind.i64.wrap ((k : Int) + 1) = ((k + 1 : Nat) : Int) := by rw [IntKind.wrap_i64]; omega
theorem wrap_up6 (k : Nat) (h : k ≤ 1000000) : wrap64 ((k : Int) + 1) = ((k + 1 : Nat) : Int) := by unfold wrap64; omega
theorem measure_up (L i : Nat) (z : Int) (h : z = ((i + 1 : Nat) : Int)) (hlt : i < L) : L - (intOf (.int .i64 z)).toNat < L - (intOf (.int .i64 (i : Int))).toNat := by
  subst h
  show L - (((i + 1 : Nat) : Int)).toNat < L - ((i : Nat) : Int).toNat
  rw [Int.toNat_natCast, Int.toNat_natCast]
  omega
set_option maxHeartbeats 4000000 in
set_option maxRecDepth 100000 in
theorem law_play (A : Option Addr) (n cap : Nat) (L : List De) (w : World) (hrd : RdD w A n cap L) :
    Calls Try.prog 27 #[.slice A n cap] w fun r w' => ∃ u, r = .returned (.tuple #[.pointer (some ⟨w.heap.size, 0, none⟩), u, .bool true]) ∧ (∃ sv, Tb w' w.heap.size w.heap.size 0 sv (playE (L.take 40))) ∧ Ow w' u (playE (L.take 40)) ∧ Below w.heap.size w w' := by
  have HB := Aside0.mk (Below.refl w.heap.size w)
  have HRD := Aside0.mk hrd
  clear hrd
  go_enter Try.func27, Try.ntmps27
  go_wp2_with (first
    | (go_at_call 18; refine (new_none _).mono ?_; rintro r w1 ⟨rfl, ht, hb⟩; have HT := Aside0.mk ht; replace HB := Aside0.mk (below_step HB.out hb); clear ht hb))
  go_loopw [6, 7] (fun v6 v7 wr => ∃ (k : Nat) (u : Value), v6 = u ∧ v7 = .int .i64 (k : Int) ∧ Aside0 (k ≤ 40 ∧ k ≤ L.length) ∧ Aside0 (∃ sv, Tb wr w.heap.size w.heap.size 0 sv (playE (L.take k))) ∧ Aside0 (Ow wr u (playE (L.take k))) ∧ Aside0 (Below w.heap.size w wr)) (fun _ v7 _ => 41 - (intOf v7).toNat)
  case atStart => exact ⟨0, _, rfl, rfl, ⟨Nat.zero_le _, Nat.zero_le _⟩, HT, ⟨World.ownsRow_nil _ _ _ _⟩, HB⟩
  case round =>
    clear HT HB
    obtain ⟨k, u, rfl, rfl, HK, HT, HO, HB⟩ := hrel
    have HLN := Aside0.mk HRD.out.len
    by_cases hlt : k < L.length
    · have c0 : decide ((k : Int) < (n : Int)) = true := decide_eq_true (by have := HLN.out; omega)
      have c0n : decide (k < n) = true := decide_eq_true (by have := HLN.out; omega)
      by_cases h40 : k < 40
      · have c1 : decide ((k : Int) < 40) = true := decide_eq_true (by omega)
        obtain ⟨d, hd⟩ : ∃ d, L[k]? = some d := ⟨L[k], List.getElem?_eq_getElem hlt⟩
        obtain ⟨G, o, hidx, hrg, hdok⟩ := HRD.out.at_ k d hd
        have HRG := Aside0.mk (range_below hrg HB.out)
        have HDO := Aside0.mk hdok
        have HSN := Aside0.mk (show doE (playE (L.take k)) d = playE (L.take (k + 1)) by rw [List.take_add_one, hd]; exact (playE_snoc _ _).symm)
        have HF := Aside0.mk (fine_play (L.take k) (fun x hx => by
          obtain ⟨i, hi⟩ := List.getElem?_of_mem (List.mem_of_mem_take hx)
          obtain ⟨_, _, _, _, h⟩ := HRD.out.at_ i x hi
          exact h))
        have HLK := Aside0.mk (show (playE (L.take k)).length ≤ 1000 by
          have h1 := HF.out.len
          have h2 : (L.take k).length ≤ k := by rw [List.length_take]; exact Nat.min_le_left _ _
          omega)
        have E1 := Aside0.mk (wrap_up k (by omega))
        have E2 := Aside0.mk (wrap_up6 k (by omega))
        clear hd hrg hdok
        go_wp2_with (first
          | ((with_reducible refine gate_dst (N := 31) rfl ?_); refine wpList_load_mid rfl 53 (.tmp 30) rfl G o rfl (lD d) _ HRG.out Try.underlying53 rfl (lD_info HDO.out) ?_)
          | (go_at_call 32; obtain ⟨sv, ht⟩ := HT.out; refine (law_does w.heap.size w.heap.size 0 sv _ (playE (L.take k)) d HDO.out _ ht HO.out HF.out.sorted HLK.out HB.out.size).mono ?_; rintro r w2 ⟨u2, rfl, ht2, ho2, hch⟩; rw [HSN.out] at ht2 ho2; have HT2 := Aside0.mk ht2; have HO2 := Aside0.mk ho2; have HB2 := Aside0.mk (HB.out.trans (chg_base hch (Nat.le_refl _) HB.out.size)); clear ht ht2 ho2 hch))
        exact ⟨⟨k + 1, u2, rfl, congrArg (Value.int .i64) (by omega), ⟨by omega⟩, HT2, HO2, HB2⟩, measure_up 41 k _ (by omega) (by omega)⟩
      · have c1n : decide (k < 40) = false := decide_eq_false h40
        have c1 : decide ((k : Int) < 40) = false := decide_eq_false (by omega)
        have HTK := Aside0.mk (show L.take k = L.take 40 by have := HK.out.1; rw [show k = 40 by omega])
        clear HRD
        go_wp2
        all_goals (go_ret3; exact ⟨_, rfl, by rw [← HTK.out]; exact HT.out, by rw [← HTK.out]; exact HO.out, HB.out⟩)
    · have c0 : decide ((k : Int) < (n : Int)) = false := decide_eq_false (by have := HLN.out; omega)
      have c0n : decide (k < n) = false := decide_eq_false (by have := HLN.out; omega)
      have HTK := Aside0.mk (show L.take k = L.take 40 by rw [List.take_of_length_le (by omega), List.take_of_length_le (by have := HK.out; omega)])
      clear HRD
      go_wp2
      all_goals (go_ret3; exact ⟨_, rfl, by rw [← HTK.out]; exact HT.out, by rw [← HTK.out]; exact HO.out, HB.out⟩)
end Go.Proofs.Ythjhbhgfckaklaa.P
