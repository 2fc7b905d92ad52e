/-
  Law SpaceMaps.
-/
import Derived.Test.YtjilnigmbnmlfaaGreatDoorSpaY
namespace Go.Proofs.YtjilnigmbnmlfaaGreatDoor.P
open Go.RowKit Go.Proofs.YtjilnigmbnmlfaaGreatDoorW.PrintWords Go.Proofs.YtjilnigmbnmlfaaGreatDoorW.PrintLast Go.Proofs.YtjilnigmbnmlfaaGreatDoorW.PrintMore
set_option linter.unusedVariables false
set_option linter.unusedSimpArgs false
/-! ### plain -/
theorem withA_bit (a : Ad) (n : Int) (hf : a.fam = 4 ∨ a.fam = 6) (j : Nat) (hj : (j : Int) < bitsOf a.fam) : bitA (withA a n 0) j = xB a n 0 j := by
  rw [bitA_of (show (j : Int) < bitsOf (withA a n 0).fam from hj)]
  unfold bitB
  show ((bit8 (byt (withL a n 0 (bitsOf a.fam).toNat) (j / 8)).toNat (j % 8) : Nat) : Int) = _
  have hle := bitsOf_le a.fam
  rw [with_bytes a _ (.inl rfl) _ (by omega) (j / 8) (by omega)]
  have h8 : min 8 ((bitsOf a.fam).toNat - 8 * (j / 8)) = 8 := by
    rcases hf with hf | hf
    · rw [hf] at hj ⊢
      have h3 : (j : Int) < 32 := hj
      rw [show (bitsOf 4).toNat = 32 from rfl]
      omega
    · rw [hf] at hj ⊢
      have h3 : (j : Int) < 128 := hj
      rw [show (bitsOf 6).toNat = 128 from rfl]
      omega
  rw [h8, acc_bit (fun t => xB_two a _ (.inl rfl) _) (Nat.mod_lt j (by decide)), show 8 * (j / 8) + j % 8 = j by omega]
  rcases xB_two a n (bit := 0) (.inl rfl) j with h | h <;> rw [h] <;> rfl
theorem own_bits (a : Ad) : maskN a (bitsOf a.fam) = bitsOf a.fam := by
  have := bitsOf_le a.fam
  unfold maskN
  rw [if_neg (show ¬ (bitsOf a.fam < 0) by omega), if_neg (by omega)]
theorem has_own {a : Ad} (hf : a.fam = 4 ∨ a.fam = 6) : hasB (maskP a (bitsOf a.fam)) a = true := by
  rw [hasB_iff]
  refine ⟨rfl, fun j hj => ?_⟩
  have hj' : (j : Int) < bitsOf a.fam := by rw [← own_bits a]; exact hj
  show bitA (withA a (maskN a (bitsOf a.fam)) 0) j = bitA a j
  rw [withA_bit a _ hf j hj']
  unfold xB
  rw [own_bits, if_neg (by omega)]
theorem sp_own {l : List En} {n : Nat} (h : Fine l n) {b : Ad} (hb : b.ok) (hmb : mayA b = true ∧ b.fam ≠ 0) (hu : unmapA b = b) : spOf (setE l (maskP b (bitsOf b.fam)) 0) b = 0 := by
  have hf := fam_may hmb.1 hmb.2
  have ho := ok_maskP b (bitsOf b.fam)
  have hm : mayQ (maskP b (bitsOf b.fam)) = true := by rw [may_same ho]; exact may_maskP hmb.1 hmb.2 _
  have hF := fine_setE h ho hm 0
  unfold spOf
  rw [hu, find_is hF hb hmb.1 hmb.2 (r := some ⟨maskP b (bitsOf b.fam), 0⟩) ⟨?_, has_own hf, fun x hx hh => ?_⟩]
  · unfold setE
    exact List.mem_append.2 (.inr (List.mem_cons_self ..))
  · show x.p.n ≤ maskN b (bitsOf b.fam)
    rw [own_bits]
    have h1 := hF.may x hx
    rw [mayP_iff] at h1
    have h3 : x.p.n ≤ bitsOf x.p.a.fam := h1.2.2.2.1
    have h4 : x.p.a.fam = b.fam := ((hasB_iff _ _).1 hh).1
    rw [h4] at h3
    exact h3
theorem addS_in {l : List En} {p : Pf} {v : Int} (h : inS v = true) (hm : mayQ p = true) : addS l p v = setE l p v := by unfold addS; rw [if_pos h, if_pos hm]
theorem erS_in {p : Pf} {v : Int} (h : inS v = true) (hm : mayQ p = true) : erS p v = 0 := by unfold erS; rw [if_pos h, if_pos hm]
/-! ### abatisref07.Add -/
theorem ref_Set2 (u : Value) (l : List En) (hl : okE l) (hs : Sorted l) (p : Pf) (hp : p.a.ok) (v : Int) (l2 : List En) (er : Int) (hl2 : l2 = if mayQ p = true then setE l p v else l) (her : er = if mayQ p = true then 0 else 1) (w : World) (hr : Ow w u l) (hn : l.length ≤ 1000) :
    Calls Tryz.prog 22 #[u, .agg (eP p), .int .i64 v] w fun r w' => ∃ u', r = .returned (.tuple #[u', .int .i64 er]) ∧ Ow w' u' l2 ∧ Below w.heap.size w w' := by
  subst hl2 her
  exact ref_Set u l hl hs p hp v w hr hn
set_option maxHeartbeats 4000000 in
theorem ref07_Add_lo (u : Value) (l : List En) (n : Nat) (hf : Fine l n) (hn : l.length ≤ 1000) (p : Pf) (hp : p.a.ok) (s : Int) (h : s < 0) (w : World) (ho : Ow w u l) :
    Calls Tryz.prog 13 #[u, .agg (eP p), .int .i64 s] w fun r w' => (r = .returned (.tuple #[u, .int .i64 1])) ∧ Below w.heap.size w w' := by
  have HB := Aside0.mk (Below.refl w.heap.size w)
  have HF := Aside0.mk hf
  have HN := Aside0.mk hn
  have HP := Aside0.mk hp
  have HOW := Aside0.mk ho
  have c0 : decide (s < 0) = true := decide_eq_true h
  clear hf hn hp ho h
  go_enter Tryz.func13, Tryz.ntmps13
  go_wp2_with (first
    | ((with_reducible refine gate_dst (N := 4) rfl ?_); refine box_event ?hg (N := 4) ?hd (cs := eP p) (t := 40) ?hr ?_; (case hd => rfl); (case hg => rfl); (case hr => first | (go_simp; done) | (go_simp; rfl)); intro k4 hg w2 hbox hb; have H4 := Aside0.mk hbox; replace HOW := Aside0.mk (ow_below HOW.out hb); replace HB := Aside0.mk (below_step HB.out hb); clear hb hg hbox))
  go_ret2
  exact ⟨rfl, HB.out⟩
set_option maxHeartbeats 4000000 in
theorem ref07_Add_hi (u : Value) (l : List En) (n : Nat) (hf : Fine l n) (hn : l.length ≤ 1000) (p : Pf) (hp : p.a.ok) (s : Int) (h0 : 0 ≤ s) (h : 2 < s) (w : World) (ho : Ow w u l) :
    Calls Tryz.prog 13 #[u, .agg (eP p), .int .i64 s] w fun r w' => (r = .returned (.tuple #[u, .int .i64 1])) ∧ Below w.heap.size w w' := by
  have HB := Aside0.mk (Below.refl w.heap.size w)
  have HF := Aside0.mk hf
  have HN := Aside0.mk hn
  have HP := Aside0.mk hp
  have HOW := Aside0.mk ho
  have c0 : decide (s < 0) = false := decide_eq_false (by omega)
  have c1 : decide (2 < s) = true := decide_eq_true h
  clear hf hn hp ho h h0
  go_enter Tryz.func13, Tryz.ntmps13
  go_wp2_with (first
    | ((with_reducible refine gate_dst (N := 4) rfl ?_); refine box_event ?hg (N := 4) ?hd (cs := eP p) (t := 40) ?hr ?_; (case hd => rfl); (case hg => rfl); (case hr => first | (go_simp; done) | (go_simp; rfl)); intro k4 hg w2 hbox hb; have H4 := Aside0.mk hbox; replace HOW := Aside0.mk (ow_below HOW.out hb); replace HB := Aside0.mk (below_step HB.out hb); clear hb hg hbox))
  go_ret2
  exact ⟨rfl, HB.out⟩
set_option maxHeartbeats 4000000 in
theorem ref07_Add_in (u : Value) (l : List En) (n : Nat) (hf : Fine l n) (hn : l.length ≤ 1000) (p : Pf) (hp : p.a.ok) (s : Int) (h0 : 0 ≤ s) (h : s ≤ 2) (l2 : List En) (er : Int) (hl2 : l2 = if mayQ p = true then setE l p s else l) (her : er = if mayQ p = true then 0 else 1) (w : World) (ho : Ow w u l) :
    Calls Tryz.prog 13 #[u, .agg (eP p), .int .i64 s] w fun r w' => (∃ u', r = .returned (.tuple #[u', .int .i64 er]) ∧ Ow w' u' l2) ∧ Below w.heap.size w w' := by
  have HB := Aside0.mk (Below.refl w.heap.size w)
  have HF := Aside0.mk hf
  have HN := Aside0.mk hn
  have HP := Aside0.mk hp
  have HOW := Aside0.mk ho
  have HL2 := Aside0.mk hl2
  have HER := Aside0.mk her
  clear hl2 her
  have c0 : decide (s < 0) = false := decide_eq_false (by omega)
  have c1 : decide (2 < s) = false := decide_eq_false (by omega)
  clear hf hn hp ho h h0
  go_enter Tryz.func13, Tryz.ntmps13
  go_wp2_with (first
    | ((with_reducible refine gate_dst (N := 4) rfl ?_); refine box_event ?hg (N := 4) ?hd (cs := eP p) (t := 40) ?hr ?_; (case hd => rfl); (case hg => rfl); (case hr => first | (go_simp; done) | (go_simp; rfl)); intro k4 hg w2 hbox hb; have H4 := Aside0.mk hbox; replace HOW := Aside0.mk (ow_below HOW.out hb); replace HB := Aside0.mk (below_step HB.out hb); clear hb hg hbox)
    | ((with_reducible refine gate_dst (N := 16) rfl ?_); refine wpList_load_row rfl 40 (.tmp 4) rfl k4 rfl 40 (eP p) (0, 0) _ H4.out Tryz.underlying40 rfl (infoEP HP.out) ?_)
    | (go_at_call 22; refine (ref_Set2 u l HF.out.ok HF.out.sorted p HP.out s l2 er HL2.out HER.out _ HOW.out HN.out).mono ?_; rintro r w4 ⟨u', rfl, ho, hb⟩; have HO2 := Aside0.mk ho; replace HB := Aside0.mk (below_step HB.out hb); clear hb ho))
  go_ret2
  exact ⟨⟨u', rfl, HO2.out⟩, HB.out⟩
theorem ref07_Add (u : Value) (l : List En) (n : Nat) (hf : Fine l n) (hn : l.length ≤ 1000) (p : Pf) (hp : p.a.ok) (s : Int) (l2 : List En) (er : Int) (hl2 : l2 = addS l p s) (her : er = erS p s) (w : World) (ho : Ow w u l) :
    Calls Tryz.prog 13 #[u, .agg (eP p), .int .i64 s] w fun r w' => ∃ u', r = .returned (.tuple #[u', .int .i64 er]) ∧ Aside0 (Ow w' u' l2) ∧ Aside0 (Below w.heap.size w w') := by
  subst hl2 her
  unfold addS erS inS
  by_cases h0 : 0 ≤ s
  · by_cases h2 : s ≤ 2
    · rw [decide_eq_true h0, decide_eq_true (show s < 3 by omega)]
      exact (ref07_Add_in u l n hf hn p hp s h0 h2 _ _ rfl rfl w ho).mono fun r w' ⟨⟨u', e, h⟩, hb⟩ => ⟨u', e, ⟨h⟩, ⟨hb⟩⟩
    · rw [decide_eq_true h0, decide_eq_false (show ¬ s < 3 by omega)]
      exact (ref07_Add_hi u l n hf hn p hp s h0 (by omega) w ho).mono fun r w' ⟨e, hb⟩ => ⟨u, e, ⟨ow_below ho hb⟩, ⟨hb⟩⟩
  · rw [decide_eq_false h0]
    exact (ref07_Add_lo u l n hf hn p hp s (by omega) w ho).mono fun r w' ⟨e, hb⟩ => ⟨u, e, ⟨ow_below ho hb⟩, ⟨hb⟩⟩
section
variable {md : Region.Mode} {S : World → Prop} {P : Program} {ops : Array Oper} {Q : Exit → Act → World → Prop}
/-- What stands behind a region that draws is shown once, for all its orders. -/
theorem anyH_tail {fuel : Nat} {listed : Array Bool} {a : Act} {w : World} (X : Nat → Act) (F : Nat → World → Prop) (h : Aside0 (∀ k y, F k y → Q .normal (X k) y) → wpAnyH P md ops Q S fuel listed a w) (ht : ∀ k y, F k y → Q .normal (X k) y) : wpAnyH P md ops Q S fuel listed a w := h ⟨ht⟩
end
theorem rdT_below {w w' : World} {A : Option Addr} {n cap : Nat} {L : List En} (h : RdT w A n cap L) (hb : Below w.heap.size w w') : RdT w' A n cap L :=
  ⟨h.len, h.form, h.le, fun i e he => by obtain ⟨G, o, h1, h2, h3⟩ := h.at_ i e he; exact ⟨G, o, h1, range_below h2 hb, h3⟩⟩
end Go.Proofs.YtjilnigmbnmlfaaGreatDoor.P
