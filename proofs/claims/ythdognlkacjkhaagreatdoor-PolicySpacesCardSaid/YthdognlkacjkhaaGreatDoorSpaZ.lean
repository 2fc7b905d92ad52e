/-
  Law SpaceMaps.
-/
import Derived.Test.YthdognlkacjkhaaGreatDoorSpaY
namespace Go.Proofs.YthdognlkacjkhaaGreatDoor.P
open Go.RowKit Go.Proofs.YthdognlkacjkhaaGreatDoorW.PrintWords Go.Proofs.YthdognlkacjkhaaGreatDoorW.PrintLast Go.Proofs.YthdognlkacjkhaaGreatDoorW.PrintMore
set_option linter.unusedVariables false
set_option linter.unusedSimpArgs false
/-! ### plain -/
/-! ### abatisref07.Add -/
theorem ref_Set2 (u : Value) (l : List En) (hl : okE l) (hs : Sorted l) (p : Pf) (hp : p.a.ok) (v : Int) (l2 : List En) (er : Int) (hl2 : l2 = if mayQ p = true then setE l p v else l) (her : er = if mayQ p = true then 0 else 1) (w : World) (hr : Ow w u l) (hn : l.length ≤ 1000) :
    Calls Tryz.prog 23 #[u, .agg (eP p), .int .i64 v] w fun r w' => ∃ u', r = .returned (.tuple #[u', .int .i64 er]) ∧ Ow w' u' l2 ∧ Below w.heap.size w w' := by
  subst hl2 her
  exact ref_Set u l hl hs p hp v w hr hn
set_option maxHeartbeats 4000000 in
theorem ref07_Add_lo (u : Value) (l : List En) (n : Nat) (hf : Fine l n) (hn : l.length ≤ 1000) (p : Pf) (hp : p.a.ok) (s : Int) (h : s < 0) (w : World) (ho : Ow w u l) :
    Calls Tryz.prog 12 #[u, .agg (eP p), .int .i64 s] w fun r w' => (r = .returned (.tuple #[u, .int .i64 1])) ∧ Below w.heap.size w w' := by
  have HB := Aside0.mk (Below.refl w.heap.size w)
  have HF := Aside0.mk hf
  have HN := Aside0.mk hn
  have HP := Aside0.mk hp
  have HOW := Aside0.mk ho
  have c0 : decide (s < 0) = true := decide_eq_true h
  clear hf hn hp ho h
  go_enter Tryz.func12, Tryz.ntmps12
  go_wp2_with (first
    | ((with_reducible refine gate_dst (N := 4) rfl ?_); refine box_event ?hg (N := 4) ?hd (cs := eP p) (t := 42) ?hr ?_; (case hd => rfl); (case hg => rfl); (case hr => first | (go_simp; done) | (go_simp; rfl)); intro k4 hg w2 hbox hb; have H4 := Aside0.mk hbox; replace HOW := Aside0.mk (ow_below HOW.out hb); replace HB := Aside0.mk (below_step HB.out hb); clear hb hg hbox))
  go_ret2
  exact ⟨rfl, HB.out⟩
set_option maxHeartbeats 4000000 in
theorem ref07_Add_hi (u : Value) (l : List En) (n : Nat) (hf : Fine l n) (hn : l.length ≤ 1000) (p : Pf) (hp : p.a.ok) (s : Int) (h0 : 0 ≤ s) (h : 2 < s) (w : World) (ho : Ow w u l) :
    Calls Tryz.prog 12 #[u, .agg (eP p), .int .i64 s] w fun r w' => (r = .returned (.tuple #[u, .int .i64 1])) ∧ Below w.heap.size w w' := by
  have HB := Aside0.mk (Below.refl w.heap.size w)
  have HF := Aside0.mk hf
  have HN := Aside0.mk hn
  have HP := Aside0.mk hp
  have HOW := Aside0.mk ho
  have c0 : decide (s < 0) = false := decide_eq_false (by omega)
  have c1 : decide (2 < s) = true := decide_eq_true h
  clear hf hn hp ho h h0
  go_enter Tryz.func12, Tryz.ntmps12
  go_wp2_with (first
    | ((with_reducible refine gate_dst (N := 4) rfl ?_); refine box_event ?hg (N := 4) ?hd (cs := eP p) (t := 42) ?hr ?_; (case hd => rfl); (case hg => rfl); (case hr => first | (go_simp; done) | (go_simp; rfl)); intro k4 hg w2 hbox hb; have H4 := Aside0.mk hbox; replace HOW := Aside0.mk (ow_below HOW.out hb); replace HB := Aside0.mk (below_step HB.out hb); clear hb hg hbox))
  go_ret2
  exact ⟨rfl, HB.out⟩
set_option maxHeartbeats 4000000 in
theorem ref07_Add_in (u : Value) (l : List En) (n : Nat) (hf : Fine l n) (hn : l.length ≤ 1000) (p : Pf) (hp : p.a.ok) (s : Int) (h0 : 0 ≤ s) (h : s ≤ 2) (l2 : List En) (er : Int) (hl2 : l2 = if mayQ p = true then setE l p s else l) (her : er = if mayQ p = true then 0 else 1) (w : World) (ho : Ow w u l) :
    Calls Tryz.prog 12 #[u, .agg (eP p), .int .i64 s] w fun r w' => (∃ u', r = .returned (.tuple #[u', .int .i64 er]) ∧ Ow w' u' l2) ∧ Below w.heap.size w w' := by
  have HB := Aside0.mk (Below.refl w.heap.size w)
  have HF := Aside0.mk hf
  have HN := Aside0.mk hn
  have HP := Aside0.mk hp
  have HOW := Aside0.mk ho
  have HL2 := Aside0.mk hl2
  have HER := Aside0.mk her
  clear hl2 her
  have c0 : decide (s < 0) = false := decide_eq_false (by omega)
  have c1 : decide (2 < s) = false := decide_eq_false (by omega)
  clear hf hn hp ho h h0
  go_enter Tryz.func12, Tryz.ntmps12
  go_wp2_with (first
    | ((with_reducible refine gate_dst (N := 4) rfl ?_); refine box_event ?hg (N := 4) ?hd (cs := eP p) (t := 42) ?hr ?_; (case hd => rfl); (case hg => rfl); (case hr => first | (go_simp; done) | (go_simp; rfl)); intro k4 hg w2 hbox hb; have H4 := Aside0.mk hbox; replace HOW := Aside0.mk (ow_below HOW.out hb); replace HB := Aside0.mk (below_step HB.out hb); clear hb hg hbox)
    | ((with_reducible refine gate_dst (N := 16) rfl ?_); refine wpList_load_row rfl 42 (.tmp 4) rfl k4 rfl 42 (eP p) (0, 0) _ H4.out Tryz.underlying42 rfl (infoEP HP.out) ?_)
    | (go_at_call 23; refine (ref_Set2 u l HF.out.ok HF.out.sorted p HP.out s l2 er HL2.out HER.out _ HOW.out HN.out).mono ?_; rintro r w4 ⟨u', rfl, ho, hb⟩; have HO2 := Aside0.mk ho; replace HB := Aside0.mk (below_step HB.out hb); clear hb ho))
  go_ret2
  exact ⟨⟨u', rfl, HO2.out⟩, HB.out⟩
theorem ref07_Add (u : Value) (l : List En) (n : Nat) (hf : Fine l n) (hn : l.length ≤ 1000) (p : Pf) (hp : p.a.ok) (s : Int) (l2 : List En) (er : Int) (hl2 : l2 = addS l p s) (her : er = erS p s) (w : World) (ho : Ow w u l) :
    Calls Tryz.prog 12 #[u, .agg (eP p), .int .i64 s] w fun r w' => ∃ u', r = .returned (.tuple #[u', .int .i64 er]) ∧ Aside0 (Ow w' u' l2) ∧ Aside0 (Below w.heap.size w w') := by
  subst hl2 her
  unfold addS erS inS
  by_cases h0 : 0 ≤ s
  · by_cases h2 : s ≤ 2
    · rw [decide_eq_true h0, decide_eq_true (show s < 3 by omega)]
      exact (ref07_Add_in u l n hf hn p hp s h0 h2 _ _ rfl rfl w ho).mono fun r w' ⟨⟨u', e, h⟩, hb⟩ => ⟨u', e, ⟨h⟩, ⟨hb⟩⟩
    · rw [decide_eq_true h0, decide_eq_false (show ¬ s < 3 by omega)]
      exact (ref07_Add_hi u l n hf hn p hp s h0 (by omega) w ho).mono fun r w' ⟨e, hb⟩ => ⟨u, e, ⟨ow_below ho hb⟩, ⟨hb⟩⟩
  · rw [decide_eq_false h0]
    exact (ref07_Add_lo u l n hf hn p hp s (by omega) w ho).mono fun r w' ⟨e, hb⟩ => ⟨u, e, ⟨ow_below ho hb⟩, ⟨hb⟩⟩
section
variable {md : Region.Mode} {S : World → Prop} {P : Program} {ops : Array Oper} {Q : Exit → Act → World → Prop}
/-- What stands behind a region that draws is shown once, for all its orders. -/
theorem anyH_tail {fuel : Nat} {listed : Array Bool} {a : Act} {w : World} (X : Nat → Act) (F : Nat → World → Prop) (h : Aside0 (∀ k y, F k y → Q .normal (X k) y) → wpAnyH P md ops Q S fuel listed a w) (ht : ∀ k y, F k y → Q .normal (X k) y) : wpAnyH P md ops Q S fuel listed a w := h ⟨ht⟩
end
end Go.Proofs.YthdognlkacjkhaaGreatDoor.P
