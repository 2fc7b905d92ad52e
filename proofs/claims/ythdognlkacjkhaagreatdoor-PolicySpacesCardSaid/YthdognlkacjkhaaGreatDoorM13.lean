/-
  Texts of the proof, put together.
-/
import Derived.Test.YthdognlkacjkhaaGreatDoorM11
import Derived.Test.YthdognlkacjkhaaGreatDoorM12
section
namespace Go.Proofs.YthdognlkacjkhaaGreatDoor.P
open Go.RowKit Go.Proofs.YthdognlkacjkhaaGreatDoorW.PrintWords Go.Proofs.YthdognlkacjkhaaGreatDoorW.PrintLast Go.Proofs.YthdognlkacjkhaaGreatDoorW.PrintMore
set_option linter.unusedVariables false
set_option linter.unusedSimpArgs false
/-- A map of spaces: where it points to, and its table. -/
structure Mp (w : World) (M T base : Nat) (st : Int) (sv : Value) (l : List En) : Prop where
  blk : w.heap[M]? = some (.cells #[.pointer (some ⟨T, 0, none⟩)] 71 (0, 0))
  tb : Tb w T base st sv l
def inS (v : Int) : Bool := decide (0 ≤ v) && decide (v < 3)
def addS (l : List En) (p : Pf) (v : Int) : List En := if inS v = true then (if mayQ p = true then setE l p v else l) else l
def erS (p : Pf) (v : Int) : Int := if inS v = true then (if mayQ p = true then 0 else 1) else 1
theorem mp_below {w w' : World} {M T base : Nat} {st : Int} {sv : Value} {l : List En} (h : Mp w M T base st sv l) (hb : Below w.heap.size w w') : Mp w' M T base st sv l := ⟨blk_below h.blk hb, tb_below h.tb hb⟩
theorem mp_ne {w : World} {M T base : Nat} {st : Int} {sv : Value} {l : List En} (h : Mp w M T base st sv l) : M ≠ T := fun e => by
  have h1 := h.blk
  have h2 := h.tb.blk
  rw [e, h2] at h1
  cases h1
theorem chg_keep {T base : Nat} {w w' : World} {g : Nat} {cs : Array Value} {t : TypeId} (hc : Chg T base w w') (hg : w.heap[g]? = some (.cells cs t (0, 0))) (hn : g ≠ T) (ht : t ≠ 44) : w'.heap[g]? = some (.cells cs t (0, 0)) :=
  hc.block g _ hn hg (.inr (fun cs fr e => by cases e; exact ht rfl))
theorem mp_chg {w w' : World} {M T base : Nat} {st : Int} {sv sv' : Value} {l l' : List En} (h : Mp w M T base st sv l) (hc : Chg T base w w') (ht : Tb w' T base st sv' l') : Mp w' M T base st sv' l' := ⟨chg_keep hc h.blk (mp_ne h) (by decide), ht⟩
theorem mp_ticks {w w' : World} {M T base : Nat} {st k : Int} {sv : Value} {l : List En} (h : Mp w M T base st sv l) (ht : Ticks T 1 w w' k) : Mp w' M T base k sv l := ⟨ticks_blk ht h.blk (mp_ne h), tb_ticks h.tb ht⟩
theorem space_is_run (v : Int) (w : World) : Calls Tryz.prog 24 #[.int .i64 v] w fun e w' => e = .returned (.bool (inS v)) ∧ Below w.heap.size w w' := by
  have hf : space_is.f v = some (inS v) := by
    unfold space_is.f inS
    by_cases h : 0 ≤ v
    · rw [if_pos h, decide_eq_true h, Bool.true_and]
    · rw [if_neg h, decide_eq_false h, Bool.false_and]
  refine (space_is.calls v _ w hf).mono fun e w' h => ?_
  obtain ⟨he, n, rfl⟩ := h
  exact ⟨he, pw_below_drewN (Below.refl _ _) n⟩
set_option maxHeartbeats 4000000 in
set_option maxRecDepth 100000 in
theorem map_Add_no (M : Nat) (p : Pf) (v : Int) (hv : inS v = false) (w : World) : Calls Tryz.prog 11 #[.pointer (some ⟨M, 0, none⟩), .agg (eP p), .int .i64 v] w fun e w' => e = .returned (.int .i64 1) ∧ Below w.heap.size w w' := by
  have HB := Aside0.mk (Below.refl w.heap.size w)
  have HI := Aside0.mk (show ∀ w, Calls Tryz.prog 24 #[.int .i64 v] w fun e w' => e = .returned (.bool false) ∧ Below w.heap.size w w' by rw [← hv]; exact space_is_run v)
  clear hv
  go_enter Tryz.func11, Tryz.ntmps11
  go_wp2_with (first
    | ((with_reducible refine gate_dst (N := 4) rfl ?_); refine box_event ?hg (N := 4) ?hd (cs := eP p) (t := 42) ?hr ?_; (case hd => rfl); (case hg => rfl); (case hr => first | (go_simp; done) | (go_simp; rfl)); intro k4 hg w2 hbox hb; replace HB := Aside0.mk (below_step HB.out hb); clear hb hg hbox)
    | (go_at_call 24; refine (HI.out _).mono ?_; rintro e w3 ⟨rfl, hb⟩; replace HB := Aside0.mk (below_step HB.out hb); clear hb))
  go_ret
  exact ⟨rfl, HB.out⟩
set_option maxHeartbeats 4000000 in
set_option maxRecDepth 100000 in
theorem map_Add_yes (M T base : Nat) (st : Int) (sv : Value) (l l2 : List En) (p : Pf) (hp : p.a.ok) (v er : Int) (hv : inS v = true) (her : er = if mayQ p = true then 0 else 1) (hl2 : l2 = if mayQ p = true then setE l p v else l) (w : World) (hm : Mp w M T base st sv l) (hs : Sorted l) (hn : l.length ≤ 1000) (hb0 : base ≤ w.heap.size) :
    Calls Tryz.prog 11 #[.pointer (some ⟨M, 0, none⟩), .agg (eP p), .int .i64 v] w fun e w' => e = .returned (.int .i64 er) ∧ Aside0 (∃ sv', Mp w' M T base st sv' l2) ∧ Aside0 (Chg T base w w') := by
  have HB := Aside0.mk (Below.refl w.heap.size w)
  have HP := Aside0.mk hp
  have HI := Aside0.mk (show ∀ w, Calls Tryz.prog 24 #[.int .i64 v] w fun e w' => e = .returned (.bool true) ∧ Below w.heap.size w w' by rw [← hv]; exact space_is_run v)
  have HM := Aside0.mk hm
  have HS := Aside0.mk hs
  have HN := Aside0.mk hn
  have HB0 := Aside0.mk hb0
  have HER := Aside0.mk her
  have HL2 := Aside0.mk hl2
  clear hp hv hm hs hn hb0 her hl2
  go_enter Tryz.func11, Tryz.ntmps11
  go_wp2_with (first
    | ((with_reducible refine gate_dst (N := 4) rfl ?_); refine box_event ?hg (N := 4) ?hd (cs := eP p) (t := 42) ?hr ?_; (case hd => rfl); (case hg => rfl); (case hr => first | (go_simp; done) | (go_simp; rfl)); intro k4 hg w2 hbox hb; have H4 := Aside0.mk hbox; replace HB := Aside0.mk (below_step HB.out hb); clear hb hg hbox)
    | (go_at_call 24; refine (HI.out _).mono ?_; rintro e w3 ⟨rfl, hb⟩; replace H4 := Aside0.mk (blk_below H4.out hb); replace HB := Aside0.mk (below_step HB.out hb); clear hb))
  replace HM := Aside0.mk (mp_below HM.out HB.out)
  have HN4 := Aside0.mk (show k4 ≠ T from fun e => by have h1 := H4.out; have h2 := HM.out.tb.blk; rw [e, h2] at h1; injection h1 with h3; injection h3 with _ h4; exact absurd h4 (by decide))
  obtain ⟨S, hS⟩ : ∃ S : World → Prop, S = fun w' => w'.heap[M]? = some (.cells #[.pointer (some ⟨T, 0, none⟩)] 71 (0, 0)) ∧ w'.heap[k4]? = some (.cells (eP p) 42 (0, 0)) := ⟨_, rfl⟩
  have HSx := Aside0.mk (show ∀ x : World, S x → x.heap[M]? = some (.cells #[.pointer (some ⟨T, 0, none⟩)] 71 (0, 0)) ∧ x.heap[k4]? = some (.cells (eP p) 42 (0, 0)) by intro b h; rw [hS] at h; exact h)
  have HSi := Aside0.mk (show ∀ x : World, x.heap[M]? = some (.cells #[.pointer (some ⟨T, 0, none⟩)] 71 (0, 0)) → x.heap[k4]? = some (.cells (eP p) 42 (0, 0)) → S x by intro b h h'; rw [hS]; exact ⟨h, h'⟩)
  have s0 : S w3.drew := HSi.out _ HM.out.blk H4.out
  replace HB := Aside0.mk (bdrew HB.out)
  replace HM := Aside0.mk (mp_below HM.out (bdrew (Below.refl _ _)))
  clear hS
  refine wp_region_held_drew (S := S) (by kernel_rfl) s0 (fun _ => ?_)
  generalize w3.drew = y0 at s0 HB HM ⊢
  refine wpAnyH_take (i := 0) (v := .pointer (some ⟨M, 0, none⟩)) rfl (by kernel_rfl) (by kernel_rfl) (by kernel_rfl) (fun _ _ _ h => h) (Or.inl ⟨by kernel_rfl, fun w' h => by first | (go_simp; done) | (go_simp; rfl)⟩) s0 ?_
  (try simp only [Act.put, List.getElem_toArray, List.getElem_cons_succ, List.getElem_cons_zero, List.setIfInBounds_toArray, List.set_cons_zero, List.set_cons_succ])
  refine wpAnyH_take (i := 1) (v := .pointer (some ⟨M, 0, none⟩)) rfl (by kernel_rfl) (by kernel_rfl) (by kernel_rfl) (fun _ _ _ h => h) (Or.inl ⟨by kernel_rfl, fun w' h => by first | (go_simp; done) | (go_simp; rfl)⟩) s0 ?_
  (try simp only [Act.put, List.getElem_toArray, List.getElem_cons_succ, List.getElem_cons_zero, List.setIfInBounds_toArray, List.set_cons_zero, List.set_cons_succ])
  refine wpAnyH_take (i := 2) (v := .pointer (some ⟨M, 0, none⟩)) rfl (by kernel_rfl) (by kernel_rfl) (by kernel_rfl) (fun _ _ _ h => h) (Or.inl ⟨by kernel_rfl, fun w' h => by first | (go_simp; done) | (go_simp; rfl)⟩) s0 ?_
  (try simp only [Act.put, List.getElem_toArray, List.getElem_cons_succ, List.getElem_cons_zero, List.setIfInBounds_toArray, List.set_cons_zero, List.set_cons_succ])
  refine wpAnyH_take (i := 3) (v := .pointer (some ⟨T, 0, none⟩)) rfl (by kernel_rfl) (by kernel_rfl) (by kernel_rfl) (fun _ _ _ h => h) (Or.inl ⟨by kernel_rfl, fun w' h => by have hf := blk_cell (HSx.out w' h).1 0; first | (go_simp; done) | (go_simp; rfl)⟩) s0 ?_
  (try simp only [Act.put, List.getElem_toArray, List.getElem_cons_succ, List.getElem_cons_zero, List.setIfInBounds_toArray, List.set_cons_zero, List.set_cons_succ])
  refine wpAnyH_take (i := 4) (v := .agg (eP p)) rfl ?a4b ?a4c ?a4d (fun _ _ _ h => h) ?a4e s0 ?a4f
  case a4b => kernel_rfl
  case a4c => kernel_rfl
  case a4d => kernel_rfl
  case a4e => exact yields_row (by kernel_rfl) 42 (.tmp 4) rfl k4 rfl 42 (eP p) (0, 0) _ (fun w' h => (HSx.out w' h).2) Tryz.underlying42 rfl (infoEP HP.out)
  (try simp only [Act.put, List.getElem_toArray, List.getElem_cons_succ, List.getElem_cons_zero, List.setIfInBounds_toArray, List.set_cons_zero, List.set_cons_succ])
  refine wpAnyH_take (i := 5) (v := .int .i64 v) rfl (by kernel_rfl) (by kernel_rfl) (by kernel_rfl) (fun _ _ _ h => h) (Or.inl ⟨by kernel_rfl, fun w' h => by first | (go_simp; done) | (go_simp; rfl)⟩) s0 ?_
  (try simp only [Act.put, List.getElem_toArray, List.getElem_cons_succ, List.getElem_cons_zero, List.setIfInBounds_toArray, List.set_cons_zero, List.set_cons_succ])
  refine held_step (i := 6) (by kernel_rfl) rfl (by kernel_rfl) (fun K hK => ?_)
  go_wp2_with (go_at_call 25; refine (set_two T base st sv l p HP.out v er l2 HER.out HL2.out _ HM.out.tb HS.out HN.out (Nat.le_trans HB0.out HB.out.size)).mono ?_; rintro r y1 ⟨rfl, HT2, HCH⟩; have s1 := HSi.out _ (chg_keep HCH.out HM.out.blk (mp_ne HM.out) (by decide)) (chg_keep HCH.out (HSx.out _ s0).2 HN4.out (by decide)))
  refine hK.out _ _ s1 ?_
  clear hK K
  (try simp only [Act.put, List.getElem_toArray, List.getElem_cons_succ, List.getElem_cons_zero, List.setIfInBounds_toArray, List.set_cons_zero, List.set_cons_succ])
  refine wpAnyH_take (i := 7) (v := .int .i64 er) rfl (by kernel_rfl) (by kernel_rfl) (by kernel_rfl) (fun _ _ _ h => h) (Or.inl ⟨by kernel_rfl, fun w' h => by first | (go_simp; done) | (go_simp; rfl)⟩) s1 ?_
  (try simp only [Act.put, List.getElem_toArray, List.getElem_cons_succ, List.getElem_cons_zero, List.setIfInBounds_toArray, List.set_cons_zero, List.set_cons_succ])
  refine wpAnyH_done (by kernel_rfl) ?_ _
  go_wp2
  go_ret
  obtain ⟨sv', ht⟩ := HT2.out
  exact ⟨rfl, ⟨sv', mp_chg HM.out HCH.out ht⟩, ⟨chg_trans (chg_below HB.out) HCH.out⟩⟩
/-- The space of an address, by entries. -/
def spOf (l : List En) (a : Ad) : Int := match findQ l (unmapA a) with
  | some e => e.v
  | none => 2
section
variable {P : Program} {md : Region.Mode} {ops : Array Oper} {Q : Exit → Act → World → Prop} {S : World → Prop}
/-- Two operations may come up. -/
theorem held_two {i j : Nat} {oi oj : Oper} {fuel : Nat} {listed : Array Bool} {a : Act} {w : World} (hr : Region.ready md ops listed = [i, j]) (hoi : ops[i]? = some oi) (hwi : Region.wanted oi (yielded ops a.tmps) = true) (hoj : ops[j]? = some oj) (hwj : Region.wanted oj (yielded ops a.tmps) = true)
    (h1 : ∀ K' : Act → World → Prop, Shut (∀ a' w', S w' → wpAnyH P md ops Q S fuel (listed.setIfInBounds i true) a' w' → K' a' w') → Oper.wp P oi a w K' Q)
    (h2 : ∀ K' : Act → World → Prop, Shut (∀ a' w', S w' → wpAnyH P md ops Q S fuel (listed.setIfInBounds j true) a' w' → K' a' w') → Oper.wp P oj a w K' Q) : wpAnyH P md ops Q S (fuel + 1) listed a w :=
  wpAnyH_ready hr (by simp) (AllReadyH.cons hoi (fun K' hK => by
    rw [if_pos hwi]
    exact h1 K' (fun a' w' hS hW => hK.out a' w' hS (fun _ => hW))) (AllReadyH.cons hoj (fun K' hK => by
    rw [if_pos hwj]
    exact h2 K' (fun a' w' hS hW => hK.out a' w' hS (fun _ => hW))) AllReadyH.nil))
end
theorem wp_new_event {P : Program} {o : Oper} {a : Act} {w : World} {K : Act → World → Prop} {Q : Exit → Act → World → Prop} {cs : Array Value} {t : TypeId}
    (hrun : (execOp a.eval o).run P w = .ok (.value (.pointer (some ⟨w.heap.size, 0, none⟩))) (w.alloc (.cells cs t (0, 0))))
    (h : ∀ g, g = w.heap.size → ∀ w1, w1.heap[g]? = some (.cells cs t (0, 0)) → Below w.heap.size w w1 → K (a.put o.dst (.pointer (some ⟨g, 0, none⟩))) w1) : o.wp P a w K Q :=
  wp_value_run hrun (h _ rfl _ (World.alloc_heap_new w _) ((Below.refl _ _).alloc (Nat.le_refl _) _))
set_option maxHeartbeats 4000000 in
set_option maxRecDepth 100000 in
theorem map_Of_true (M T base : Nat) (st : Nat) (sv : Value) (l : List En) (a b : Ad) (ha : a.ok) (hb : b.ok) (hab : unmapA a = b) (e : En) (he : e.p.a.ok) (hf : (findQ l b).getD noE = e ∧ (findQ l b).isSome = true) (w : World) (hm : Mp w M T base (st : Int) sv l) (hs : Sorted l) (hn : l.length ≤ 1000) (hst : st ≤ 1000000) :
    Calls Tryz.prog 15 #[.pointer (some ⟨M, 0, none⟩), .agg (eA a)] w fun r w' => r = .returned (.int .i64 (e.v)) ∧ ∃ m : Nat, m ≤ 129 * (blen l.length + 1) ∧ Ticks T 1 w w' ((st + m : Nat) : Int) := by
  have HB := Aside0.mk (Below.refl w.heap.size w)
  have HA := Aside0.mk ha
  have HBO := Aside0.mk hb
  have HEO := Aside0.mk he
  have HM := Aside0.mk hm
  have HU := Aside0.mk (show ∀ w, Calls Tryz.prog 27 #[.agg (eA a)] w fun e w' => e = .returned (.agg (eA b)) ∧ Below w.heap.size w w' by rw [← hab]; exact fun w => addr_Unmap a ha w)
  have HFD := Aside0.mk (show ∀ (w : World), Tb w T base (st : Int) sv l → Calls Tryz.prog 26 #[.pointer (some ⟨T, 0, none⟩), .agg (eA b)] w fun r w' => ∃ m : Nat, r = .returned (.tuple #[.agg (eE e), .bool true]) ∧ m ≤ 129 * (blen l.length + 1) ∧ Ticks T 1 w w' ((st + m : Nat) : Int) from fun w ht => (table_Find T base st sv l b hb w ht hs hn (by omega)).mono (fun r w' h => by rw [hf.1, hf.2] at h; obtain ⟨m, h1, h2, h3⟩ := h; exact ⟨m, h1, h2, by rw [Int.natCast_add]; exact h3⟩))
  clear ha hb hab he hf hm hs hn hst
  go_enter Tryz.func15, Tryz.ntmps15
  go_wp2_with (first
    | ((with_reducible refine gate_dst (N := 3) rfl ?_); refine box_event ?hg (N := 3) ?hd (cs := eA a) (t := 30) ?hr ?_; (case hd => rfl); (case hg => rfl); (case hr => first | (go_simp; done) | (go_simp; rfl)); intro k3 hg w2 hbox hb; have H3 := Aside0.mk hbox; replace HB := Aside0.mk (below_step HB.out hb); clear hb hg hbox))
  have HTB := Aside0.mk HM.out.tb.blk
  replace HM := Aside0.mk (mp_below HM.out HB.out)
  obtain ⟨S, hS⟩ : ∃ S : World → Prop, S = fun w' => w'.heap[M]? = some (.cells #[.pointer (some ⟨T, 0, none⟩)] 71 (0, 0)) ∧ w'.heap[k3]? = some (.cells (eA a) 30 (0, 0)) := ⟨_, rfl⟩
  have HSx := Aside0.mk (show ∀ x : World, S x → x.heap[M]? = some (.cells #[.pointer (some ⟨T, 0, none⟩)] 71 (0, 0)) ∧ x.heap[k3]? = some (.cells (eA a) 30 (0, 0)) by intro b h; rw [hS] at h; exact h)
  have HSi := Aside0.mk (show ∀ x : World, x.heap[M]? = some (.cells #[.pointer (some ⟨T, 0, none⟩)] 71 (0, 0)) → x.heap[k3]? = some (.cells (eA a) 30 (0, 0)) → S x by intro b h h'; rw [hS]; exact ⟨h, h'⟩)
  have s0 : S w2.drew := HSi.out _ HM.out.blk H3.out
  replace HB := Aside0.mk (bdrew HB.out)
  replace HM := Aside0.mk (mp_below HM.out (bdrew (Below.refl _ _)))
  clear hS
  refine wp_region_held_drew (S := S) (by kernel_rfl) s0 (fun _ => ?_)
  generalize w2.drew = y0 at s0 HB HM ⊢
  refine wpAnyH_take (i := 0) (v := .pointer (some ⟨M, 0, none⟩)) rfl (by kernel_rfl) (by kernel_rfl) (by kernel_rfl) (fun _ _ _ h => h) (Or.inl ⟨by kernel_rfl, fun w' h => by first | (go_simp; done) | (go_simp; rfl)⟩) s0 ?_
  (try simp only [Act.put, List.getElem_toArray, List.getElem_cons_succ, List.getElem_cons_zero, List.setIfInBounds_toArray, List.set_cons_zero, List.set_cons_succ])
  refine wpAnyH_take (i := 1) (v := .pointer (some ⟨M, 0, none⟩)) rfl (by kernel_rfl) (by kernel_rfl) (by kernel_rfl) (fun _ _ _ h => h) (Or.inl ⟨by kernel_rfl, fun w' h => by first | (go_simp; done) | (go_simp; rfl)⟩) s0 ?_
  (try simp only [Act.put, List.getElem_toArray, List.getElem_cons_succ, List.getElem_cons_zero, List.setIfInBounds_toArray, List.set_cons_zero, List.set_cons_succ])
  refine wpAnyH_take (i := 2) (v := .pointer (some ⟨M, 0, none⟩)) rfl (by kernel_rfl) (by kernel_rfl) (by kernel_rfl) (fun _ _ _ h => h) (Or.inl ⟨by kernel_rfl, fun w' h => by first | (go_simp; done) | (go_simp; rfl)⟩) s0 ?_
  (try simp only [Act.put, List.getElem_toArray, List.getElem_cons_succ, List.getElem_cons_zero, List.setIfInBounds_toArray, List.set_cons_zero, List.set_cons_succ])
  refine wpAnyH_take (i := 3) (v := .pointer (some ⟨T, 0, none⟩)) rfl (by kernel_rfl) (by kernel_rfl) (by kernel_rfl) (fun _ _ _ h => h) (Or.inl ⟨by kernel_rfl, fun w' h => by have hf := blk_cell (HSx.out w' h).1 0; first | (go_simp; done) | (go_simp; rfl)⟩) s0 ?_
  (try simp only [Act.put, List.getElem_toArray, List.getElem_cons_succ, List.getElem_cons_zero, List.setIfInBounds_toArray, List.set_cons_zero, List.set_cons_succ])
  refine wpAnyH_take (i := 4) (v := .agg (eA a)) rfl ?ay4b ?ay4c ?ay4d (fun _ _ _ h => h) ?ay4e s0 ?ay4f
  case ay4b => kernel_rfl
  case ay4c => kernel_rfl
  case ay4d => kernel_rfl
  case ay4e => exact yields_row (by kernel_rfl) 30 (.tmp 3) rfl k3 rfl 30 (eA a) (0, 0) _ (fun w' h => (HSx.out w' h).2) Tryz.underlying30 rfl (infoE HA.out)
  (try simp only [Act.put, List.getElem_toArray, List.getElem_cons_succ, List.getElem_cons_zero, List.setIfInBounds_toArray, List.set_cons_zero, List.set_cons_succ])
  refine held_two (i := 5) (j := 10) (by kernel_rfl) rfl (by kernel_rfl) rfl (by kernel_rfl) (fun K hK => ?_) (fun K hK => ?_)
  · go_wp2_with (go_at_call 27; refine (HU.out _).mono ?_; rintro r y1 ⟨rfl, hb⟩; have s1 := HSi.out _ (blk_below (HSx.out _ s0).1 hb) (blk_below (HSx.out _ s0).2 hb); replace HM := Aside0.mk (mp_below HM.out hb); replace HB := Aside0.mk (below_step HB.out hb); clear hb)
    refine hK.out _ _ s1 ?_
    clear hK K s0
    have s0 := s1
    clear s1
    (try simp only [Act.put, List.getElem_toArray, List.getElem_cons_succ, List.getElem_cons_zero, List.setIfInBounds_toArray, List.set_cons_zero, List.set_cons_succ])
    refine held_two (i := 6) (j := 10) (by kernel_rfl) rfl (by kernel_rfl) rfl (by kernel_rfl) (fun K hK => ?_) (fun K hK => ?_)
    · go_wp2_with (go_at_call 26; refine (HFD.out _ HM.out.tb).mono ?_; rintro r y2 ⟨m, rfl, hm, htk⟩; have HN3 := Aside0.mk (show k3 ≠ T from fun e => by have h1 := (HSx.out _ s0).2; have h2 := HM.out.tb.blk; rw [e, h2] at h1; injection h1 with h3; injection h3 with _ h4; exact absurd h4 (by decide)); have s2 := HSi.out _ (ticks_blk htk (HSx.out _ s0).1 (mp_ne HM.out)) (ticks_blk htk (HSx.out _ s0).2 HN3.out); have HMM := Aside0.mk hm; have HTK := Aside0.mk (below_ticks HTB.out HB.out htk); clear hm htk)
      refine hK.out _ _ s2 ?_
      clear hK K s0
      have s0 := s2
      clear s2
      (try simp only [Act.put, List.getElem_toArray, List.getElem_cons_succ, List.getElem_cons_zero, List.setIfInBounds_toArray, List.set_cons_zero, List.set_cons_succ])
      refine wpAnyH_take (i := 7) (v := .tuple #[.agg (eE e), .bool true]) rfl (by kernel_rfl) (by kernel_rfl) (by kernel_rfl) (fun _ _ _ h => h) (Or.inl ⟨by kernel_rfl, fun w' h => by first | (go_simp; done) | (go_simp; rfl)⟩) s0 ?_
      (try simp only [Act.put, List.getElem_toArray, List.getElem_cons_succ, List.getElem_cons_zero, List.setIfInBounds_toArray, List.set_cons_zero, List.set_cons_succ])
      refine wpAnyH_take (i := 8) (v := .agg (eE e)) rfl (by kernel_rfl) (by kernel_rfl) (by kernel_rfl) (fun _ _ _ h => h) (Or.inl ⟨by kernel_rfl, fun w' h => by first | (go_simp; done) | (go_simp; rfl)⟩) s0 ?_
      (try simp only [Act.put, List.getElem_toArray, List.getElem_cons_succ, List.getElem_cons_zero, List.setIfInBounds_toArray, List.set_cons_zero, List.set_cons_succ])
      refine wpAnyH_take (i := 9) (v := .bool true) rfl (by kernel_rfl) (by kernel_rfl) (by kernel_rfl) (fun _ _ _ h => h) (Or.inl ⟨by kernel_rfl, fun w' h => by first | (go_simp; done) | (go_simp; rfl)⟩) s0 ?_
      (try simp only [Act.put, List.getElem_toArray, List.getElem_cons_succ, List.getElem_cons_zero, List.setIfInBounds_toArray, List.set_cons_zero, List.set_cons_succ])
      refine held_step (i := 10) (by kernel_rfl) rfl (by kernel_rfl) (fun K hK => ?_)
      refine wp_new_event (cs := eE noE) (t := 44) (by first | (go_simp; done) | (go_simp; rfl)) ?_
      intro k5 hg y5 hbox hb
      have H5 := Aside0.mk hbox
      have HZ5 := Aside0.mk (show w.heap.size ≤ k5 from Nat.le_trans HTK.out.size (Nat.le_of_eq hg.symm))
      have HN5 := Aside0.mk (show k5 ≠ T by have := (Array.getElem?_eq_some_iff.1 HTB.out).1; have := HTK.out.size; omega)
      have HNM := Aside0.mk (show M ≠ k5 ∧ k3 ≠ k5 by have h1 := (Array.getElem?_eq_some_iff.1 (HSx.out _ s0).1).1; have h2 := (Array.getElem?_eq_some_iff.1 (HSx.out _ s0).2).1; omega)
      have s5 := HSi.out _ (blk_below (HSx.out _ s0).1 hb) (blk_below (HSx.out _ s0).2 hb)
      replace HTK := Aside0.mk (ticks_below HTK.out hb)
      refine hK.out _ _ s5 ?_
      clear hK K s0 hg hbox hb
      have s0 := s5
      clear s5
      (try simp only [Act.put, List.getElem_toArray, List.getElem_cons_succ, List.getElem_cons_zero, List.setIfInBounds_toArray, List.set_cons_zero, List.set_cons_succ])
      refine held_step (i := 11) (by kernel_rfl) rfl (by kernel_rfl) (fun K hK => ?_)
      refine wp_store_row 44 (.tmp 5) (.tmp 15) rfl k5 (eE e) rfl rfl 44 (eE noE) H5.out (infoEE HEO.out) ((eE_size ok_noE).trans (eE_size HEO.out).symm) (eE_one _) ?_
      have s6 := HSi.out (y5.setRow k5 (eE e)) ((row_far HNM.out.1).trans (HSx.out _ s0).1) ((row_far HNM.out.2).trans (HSx.out _ s0).2)
      replace HTK := Aside0.mk (ticks_row HTK.out HZ5.out HN5.out (eE e))
      replace H5 := Aside0.mk (row_new (cells := eE e) H5.out)
      refine hK.out _ _ s6 ?_
      clear hK K s0
      generalize y5.setRow k5 (eE e) = y6 at s6 HTK H5 ⊢
      (try simp only [Act.put, List.getElem_toArray, List.getElem_cons_succ, List.getElem_cons_zero, List.setIfInBounds_toArray, List.set_cons_zero, List.set_cons_succ])
      refine wpAnyH_take (i := 12) (v := .bool true) rfl (by kernel_rfl) (by kernel_rfl) (by kernel_rfl) (fun _ _ _ h => h) (Or.inl ⟨by kernel_rfl, fun w' h => by first | (go_simp; done) | (go_simp; rfl)⟩) s6 ?_
      (try simp only [Act.put, List.getElem_toArray, List.getElem_cons_succ, List.getElem_cons_zero, List.setIfInBounds_toArray, List.set_cons_zero, List.set_cons_succ])
      refine wpAnyH_done (by kernel_rfl) ?_ _
      clear s6
      have cv := val_cell HEO.out H5.out
      go_wp2
      go_ret
      exact ⟨rfl, m, HMM.out, HTK.out⟩
    · refine wp_new_event (cs := eE noE) (t := 44) (by first | (go_simp; done) | (go_simp; rfl)) ?_
      intro k5 hg y5 hbox hb
      have H5 := Aside0.mk hbox
      have HZ5 := Aside0.mk (show w.heap.size ≤ k5 from Nat.le_trans HB.out.size (Nat.le_of_eq hg.symm))
      have HN5 := Aside0.mk (show k5 ≠ T by have := (Array.getElem?_eq_some_iff.1 HM.out.tb.blk).1; omega)
      have HNM := Aside0.mk (show M ≠ k5 ∧ k3 ≠ k5 by have h1 := (Array.getElem?_eq_some_iff.1 (HSx.out _ s0).1).1; have h2 := (Array.getElem?_eq_some_iff.1 (HSx.out _ s0).2).1; omega)
      have s5 := HSi.out _ (blk_below (HSx.out _ s0).1 hb) (blk_below (HSx.out _ s0).2 hb)
      replace HM := Aside0.mk (mp_below HM.out hb)
      replace HB := Aside0.mk (below_step HB.out hb)
      refine hK.out _ _ s5 ?_
      clear hK K s0 hg hbox hb
      have s0 := s5
      clear s5
      (try simp only [Act.put, List.getElem_toArray, List.getElem_cons_succ, List.getElem_cons_zero, List.setIfInBounds_toArray, List.set_cons_zero, List.set_cons_succ])
      refine held_step (i := 6) (by kernel_rfl) rfl (by kernel_rfl) (fun K hK => ?_)
      go_wp2_with (go_at_call 26; refine (HFD.out _ HM.out.tb).mono ?_; rintro r y2 ⟨m, rfl, hm, htk⟩; have HN3 := Aside0.mk (show k3 ≠ T from fun e => by have h1 := (HSx.out _ s0).2; have h2 := HM.out.tb.blk; rw [e, h2] at h1; injection h1 with h3; injection h3 with _ h4; exact absurd h4 (by decide)); have s2 := HSi.out _ (ticks_blk htk (HSx.out _ s0).1 (mp_ne HM.out)) (ticks_blk htk (HSx.out _ s0).2 HN3.out); have HMM := Aside0.mk hm; have HTK := Aside0.mk (below_ticks HTB.out HB.out htk); replace H5 := Aside0.mk (ticks_blk htk H5.out HN5.out); clear hm htk)
      refine hK.out _ _ s2 ?_
      clear hK K s0
      have s0 := s2
      clear s2
      (try simp only [Act.put, List.getElem_toArray, List.getElem_cons_succ, List.getElem_cons_zero, List.setIfInBounds_toArray, List.set_cons_zero, List.set_cons_succ])
      refine wpAnyH_take (i := 7) (v := .tuple #[.agg (eE e), .bool true]) rfl (by kernel_rfl) (by kernel_rfl) (by kernel_rfl) (fun _ _ _ h => h) (Or.inl ⟨by kernel_rfl, fun w' h => by first | (go_simp; done) | (go_simp; rfl)⟩) s0 ?_
      (try simp only [Act.put, List.getElem_toArray, List.getElem_cons_succ, List.getElem_cons_zero, List.setIfInBounds_toArray, List.set_cons_zero, List.set_cons_succ])
      refine wpAnyH_take (i := 8) (v := .agg (eE e)) rfl (by kernel_rfl) (by kernel_rfl) (by kernel_rfl) (fun _ _ _ h => h) (Or.inl ⟨by kernel_rfl, fun w' h => by first | (go_simp; done) | (go_simp; rfl)⟩) s0 ?_
      (try simp only [Act.put, List.getElem_toArray, List.getElem_cons_succ, List.getElem_cons_zero, List.setIfInBounds_toArray, List.set_cons_zero, List.set_cons_succ])
      refine wpAnyH_take (i := 9) (v := .bool true) rfl (by kernel_rfl) (by kernel_rfl) (by kernel_rfl) (fun _ _ _ h => h) (Or.inl ⟨by kernel_rfl, fun w' h => by first | (go_simp; done) | (go_simp; rfl)⟩) s0 ?_
      (try simp only [Act.put, List.getElem_toArray, List.getElem_cons_succ, List.getElem_cons_zero, List.setIfInBounds_toArray, List.set_cons_zero, List.set_cons_succ])
      refine held_step (i := 11) (by kernel_rfl) rfl (by kernel_rfl) (fun K hK => ?_)
      refine wp_store_row 44 (.tmp 5) (.tmp 15) rfl k5 (eE e) rfl rfl 44 (eE noE) H5.out (infoEE HEO.out) ((eE_size ok_noE).trans (eE_size HEO.out).symm) (eE_one _) ?_
      have s6 := HSi.out (y2.setRow k5 (eE e)) ((row_far HNM.out.1).trans (HSx.out _ s0).1) ((row_far HNM.out.2).trans (HSx.out _ s0).2)
      replace HTK := Aside0.mk (ticks_row HTK.out HZ5.out HN5.out (eE e))
      replace H5 := Aside0.mk (row_new (cells := eE e) H5.out)
      refine hK.out _ _ s6 ?_
      clear hK K s0
      generalize y2.setRow k5 (eE e) = y6 at s6 HTK H5 ⊢
      (try simp only [Act.put, List.getElem_toArray, List.getElem_cons_succ, List.getElem_cons_zero, List.setIfInBounds_toArray, List.set_cons_zero, List.set_cons_succ])
      refine wpAnyH_take (i := 12) (v := .bool true) rfl (by kernel_rfl) (by kernel_rfl) (by kernel_rfl) (fun _ _ _ h => h) (Or.inl ⟨by kernel_rfl, fun w' h => by first | (go_simp; done) | (go_simp; rfl)⟩) s6 ?_
      (try simp only [Act.put, List.getElem_toArray, List.getElem_cons_succ, List.getElem_cons_zero, List.setIfInBounds_toArray, List.set_cons_zero, List.set_cons_succ])
      refine wpAnyH_done (by kernel_rfl) ?_ _
      clear s6
      have cv := val_cell HEO.out H5.out
      go_wp2
      go_ret
      exact ⟨rfl, m, HMM.out, HTK.out⟩
  · refine wp_new_event (cs := eE noE) (t := 44) (by first | (go_simp; done) | (go_simp; rfl)) ?_
    intro k5 hg y5 hbox hb
    have H5 := Aside0.mk hbox
    have HZ5 := Aside0.mk (show w.heap.size ≤ k5 from Nat.le_trans HB.out.size (Nat.le_of_eq hg.symm))
    have HN5 := Aside0.mk (show k5 ≠ T by have := (Array.getElem?_eq_some_iff.1 HM.out.tb.blk).1; omega)
    have HNM := Aside0.mk (show M ≠ k5 ∧ k3 ≠ k5 by have h1 := (Array.getElem?_eq_some_iff.1 (HSx.out _ s0).1).1; have h2 := (Array.getElem?_eq_some_iff.1 (HSx.out _ s0).2).1; omega)
    have s5 := HSi.out _ (blk_below (HSx.out _ s0).1 hb) (blk_below (HSx.out _ s0).2 hb)
    replace HM := Aside0.mk (mp_below HM.out hb)
    replace HB := Aside0.mk (below_step HB.out hb)
    refine hK.out _ _ s5 ?_
    clear hK K s0 hg hbox hb
    have s0 := s5
    clear s5
    (try simp only [Act.put, List.getElem_toArray, List.getElem_cons_succ, List.getElem_cons_zero, List.setIfInBounds_toArray, List.set_cons_zero, List.set_cons_succ])
    refine held_step (i := 5) (by kernel_rfl) rfl (by kernel_rfl) (fun K hK => ?_)
    go_wp2_with (go_at_call 27; refine (HU.out _).mono ?_; rintro r y1 ⟨rfl, hb⟩; have s1 := HSi.out _ (blk_below (HSx.out _ s0).1 hb) (blk_below (HSx.out _ s0).2 hb); replace HM := Aside0.mk (mp_below HM.out hb); replace HB := Aside0.mk (below_step HB.out hb); replace H5 := Aside0.mk (blk_below H5.out hb); clear hb)
    refine hK.out _ _ s1 ?_
    clear hK K s0
    have s0 := s1
    clear s1
    (try simp only [Act.put, List.getElem_toArray, List.getElem_cons_succ, List.getElem_cons_zero, List.setIfInBounds_toArray, List.set_cons_zero, List.set_cons_succ])
    refine held_step (i := 6) (by kernel_rfl) rfl (by kernel_rfl) (fun K hK => ?_)
    go_wp2_with (go_at_call 26; refine (HFD.out _ HM.out.tb).mono ?_; rintro r y2 ⟨m, rfl, hm, htk⟩; have HN3 := Aside0.mk (show k3 ≠ T from fun e => by have h1 := (HSx.out _ s0).2; have h2 := HM.out.tb.blk; rw [e, h2] at h1; injection h1 with h3; injection h3 with _ h4; exact absurd h4 (by decide)); have s2 := HSi.out _ (ticks_blk htk (HSx.out _ s0).1 (mp_ne HM.out)) (ticks_blk htk (HSx.out _ s0).2 HN3.out); have HMM := Aside0.mk hm; have HTK := Aside0.mk (below_ticks HTB.out HB.out htk); replace H5 := Aside0.mk (ticks_blk htk H5.out HN5.out); clear hm htk)
    refine hK.out _ _ s2 ?_
    clear hK K s0
    have s0 := s2
    clear s2
    (try simp only [Act.put, List.getElem_toArray, List.getElem_cons_succ, List.getElem_cons_zero, List.setIfInBounds_toArray, List.set_cons_zero, List.set_cons_succ])
    refine wpAnyH_take (i := 7) (v := .tuple #[.agg (eE e), .bool true]) rfl (by kernel_rfl) (by kernel_rfl) (by kernel_rfl) (fun _ _ _ h => h) (Or.inl ⟨by kernel_rfl, fun w' h => by first | (go_simp; done) | (go_simp; rfl)⟩) s0 ?_
    (try simp only [Act.put, List.getElem_toArray, List.getElem_cons_succ, List.getElem_cons_zero, List.setIfInBounds_toArray, List.set_cons_zero, List.set_cons_succ])
    refine wpAnyH_take (i := 8) (v := .agg (eE e)) rfl (by kernel_rfl) (by kernel_rfl) (by kernel_rfl) (fun _ _ _ h => h) (Or.inl ⟨by kernel_rfl, fun w' h => by first | (go_simp; done) | (go_simp; rfl)⟩) s0 ?_
    (try simp only [Act.put, List.getElem_toArray, List.getElem_cons_succ, List.getElem_cons_zero, List.setIfInBounds_toArray, List.set_cons_zero, List.set_cons_succ])
    refine wpAnyH_take (i := 9) (v := .bool true) rfl (by kernel_rfl) (by kernel_rfl) (by kernel_rfl) (fun _ _ _ h => h) (Or.inl ⟨by kernel_rfl, fun w' h => by first | (go_simp; done) | (go_simp; rfl)⟩) s0 ?_
    (try simp only [Act.put, List.getElem_toArray, List.getElem_cons_succ, List.getElem_cons_zero, List.setIfInBounds_toArray, List.set_cons_zero, List.set_cons_succ])
    refine held_step (i := 11) (by kernel_rfl) rfl (by kernel_rfl) (fun K hK => ?_)
    refine wp_store_row 44 (.tmp 5) (.tmp 15) rfl k5 (eE e) rfl rfl 44 (eE noE) H5.out (infoEE HEO.out) ((eE_size ok_noE).trans (eE_size HEO.out).symm) (eE_one _) ?_
    have s6 := HSi.out (y2.setRow k5 (eE e)) ((row_far HNM.out.1).trans (HSx.out _ s0).1) ((row_far HNM.out.2).trans (HSx.out _ s0).2)
    replace HTK := Aside0.mk (ticks_row HTK.out HZ5.out HN5.out (eE e))
    replace H5 := Aside0.mk (row_new (cells := eE e) H5.out)
    refine hK.out _ _ s6 ?_
    clear hK K s0
    generalize y2.setRow k5 (eE e) = y6 at s6 HTK H5 ⊢
    (try simp only [Act.put, List.getElem_toArray, List.getElem_cons_succ, List.getElem_cons_zero, List.setIfInBounds_toArray, List.set_cons_zero, List.set_cons_succ])
    refine wpAnyH_take (i := 12) (v := .bool true) rfl (by kernel_rfl) (by kernel_rfl) (by kernel_rfl) (fun _ _ _ h => h) (Or.inl ⟨by kernel_rfl, fun w' h => by first | (go_simp; done) | (go_simp; rfl)⟩) s6 ?_
    (try simp only [Act.put, List.getElem_toArray, List.getElem_cons_succ, List.getElem_cons_zero, List.setIfInBounds_toArray, List.set_cons_zero, List.set_cons_succ])
    refine wpAnyH_done (by kernel_rfl) ?_ _
    clear s6
    have cv := val_cell HEO.out H5.out
    go_wp2
    go_ret
    exact ⟨rfl, m, HMM.out, HTK.out⟩
set_option maxHeartbeats 4000000 in
set_option maxRecDepth 100000 in
theorem map_Of_false (M T base : Nat) (st : Nat) (sv : Value) (l : List En) (a b : Ad) (ha : a.ok) (hb : b.ok) (hab : unmapA a = b) (e : En) (he : e.p.a.ok) (hf : (findQ l b).getD noE = e ∧ (findQ l b).isSome = false) (w : World) (hm : Mp w M T base (st : Int) sv l) (hs : Sorted l) (hn : l.length ≤ 1000) (hst : st ≤ 1000000) :
    Calls Tryz.prog 15 #[.pointer (some ⟨M, 0, none⟩), .agg (eA a)] w fun r w' => r = .returned (.int .i64 (2)) ∧ ∃ m : Nat, m ≤ 129 * (blen l.length + 1) ∧ Ticks T 1 w w' ((st + m : Nat) : Int) := by
  have HB := Aside0.mk (Below.refl w.heap.size w)
  have HA := Aside0.mk ha
  have HBO := Aside0.mk hb
  have HEO := Aside0.mk he
  have HM := Aside0.mk hm
  have HU := Aside0.mk (show ∀ w, Calls Tryz.prog 27 #[.agg (eA a)] w fun e w' => e = .returned (.agg (eA b)) ∧ Below w.heap.size w w' by rw [← hab]; exact fun w => addr_Unmap a ha w)
  have HFD := Aside0.mk (show ∀ (w : World), Tb w T base (st : Int) sv l → Calls Tryz.prog 26 #[.pointer (some ⟨T, 0, none⟩), .agg (eA b)] w fun r w' => ∃ m : Nat, r = .returned (.tuple #[.agg (eE e), .bool false]) ∧ m ≤ 129 * (blen l.length + 1) ∧ Ticks T 1 w w' ((st + m : Nat) : Int) from fun w ht => (table_Find T base st sv l b hb w ht hs hn (by omega)).mono (fun r w' h => by rw [hf.1, hf.2] at h; obtain ⟨m, h1, h2, h3⟩ := h; exact ⟨m, h1, h2, by rw [Int.natCast_add]; exact h3⟩))
  clear ha hb hab he hf hm hs hn hst
  go_enter Tryz.func15, Tryz.ntmps15
  go_wp2_with (first
    | ((with_reducible refine gate_dst (N := 3) rfl ?_); refine box_event ?hg (N := 3) ?hd (cs := eA a) (t := 30) ?hr ?_; (case hd => rfl); (case hg => rfl); (case hr => first | (go_simp; done) | (go_simp; rfl)); intro k3 hg w2 hbox hb; have H3 := Aside0.mk hbox; replace HB := Aside0.mk (below_step HB.out hb); clear hb hg hbox))
  have HTB := Aside0.mk HM.out.tb.blk
  replace HM := Aside0.mk (mp_below HM.out HB.out)
  obtain ⟨S, hS⟩ : ∃ S : World → Prop, S = fun w' => w'.heap[M]? = some (.cells #[.pointer (some ⟨T, 0, none⟩)] 71 (0, 0)) ∧ w'.heap[k3]? = some (.cells (eA a) 30 (0, 0)) := ⟨_, rfl⟩
  have HSx := Aside0.mk (show ∀ x : World, S x → x.heap[M]? = some (.cells #[.pointer (some ⟨T, 0, none⟩)] 71 (0, 0)) ∧ x.heap[k3]? = some (.cells (eA a) 30 (0, 0)) by intro b h; rw [hS] at h; exact h)
  have HSi := Aside0.mk (show ∀ x : World, x.heap[M]? = some (.cells #[.pointer (some ⟨T, 0, none⟩)] 71 (0, 0)) → x.heap[k3]? = some (.cells (eA a) 30 (0, 0)) → S x by intro b h h'; rw [hS]; exact ⟨h, h'⟩)
  have s0 : S w2.drew := HSi.out _ HM.out.blk H3.out
  replace HB := Aside0.mk (bdrew HB.out)
  replace HM := Aside0.mk (mp_below HM.out (bdrew (Below.refl _ _)))
  clear hS
  refine wp_region_held_drew (S := S) (by kernel_rfl) s0 (fun _ => ?_)
  generalize w2.drew = y0 at s0 HB HM ⊢
  refine wpAnyH_take (i := 0) (v := .pointer (some ⟨M, 0, none⟩)) rfl (by kernel_rfl) (by kernel_rfl) (by kernel_rfl) (fun _ _ _ h => h) (Or.inl ⟨by kernel_rfl, fun w' h => by first | (go_simp; done) | (go_simp; rfl)⟩) s0 ?_
  (try simp only [Act.put, List.getElem_toArray, List.getElem_cons_succ, List.getElem_cons_zero, List.setIfInBounds_toArray, List.set_cons_zero, List.set_cons_succ])
  refine wpAnyH_take (i := 1) (v := .pointer (some ⟨M, 0, none⟩)) rfl (by kernel_rfl) (by kernel_rfl) (by kernel_rfl) (fun _ _ _ h => h) (Or.inl ⟨by kernel_rfl, fun w' h => by first | (go_simp; done) | (go_simp; rfl)⟩) s0 ?_
  (try simp only [Act.put, List.getElem_toArray, List.getElem_cons_succ, List.getElem_cons_zero, List.setIfInBounds_toArray, List.set_cons_zero, List.set_cons_succ])
  refine wpAnyH_take (i := 2) (v := .pointer (some ⟨M, 0, none⟩)) rfl (by kernel_rfl) (by kernel_rfl) (by kernel_rfl) (fun _ _ _ h => h) (Or.inl ⟨by kernel_rfl, fun w' h => by first | (go_simp; done) | (go_simp; rfl)⟩) s0 ?_
  (try simp only [Act.put, List.getElem_toArray, List.getElem_cons_succ, List.getElem_cons_zero, List.setIfInBounds_toArray, List.set_cons_zero, List.set_cons_succ])
  refine wpAnyH_take (i := 3) (v := .pointer (some ⟨T, 0, none⟩)) rfl (by kernel_rfl) (by kernel_rfl) (by kernel_rfl) (fun _ _ _ h => h) (Or.inl ⟨by kernel_rfl, fun w' h => by have hf := blk_cell (HSx.out w' h).1 0; first | (go_simp; done) | (go_simp; rfl)⟩) s0 ?_
  (try simp only [Act.put, List.getElem_toArray, List.getElem_cons_succ, List.getElem_cons_zero, List.setIfInBounds_toArray, List.set_cons_zero, List.set_cons_succ])
  refine wpAnyH_take (i := 4) (v := .agg (eA a)) rfl ?an4b ?an4c ?an4d (fun _ _ _ h => h) ?an4e s0 ?an4f
  case an4b => kernel_rfl
  case an4c => kernel_rfl
  case an4d => kernel_rfl
  case an4e => exact yields_row (by kernel_rfl) 30 (.tmp 3) rfl k3 rfl 30 (eA a) (0, 0) _ (fun w' h => (HSx.out w' h).2) Tryz.underlying30 rfl (infoE HA.out)
  (try simp only [Act.put, List.getElem_toArray, List.getElem_cons_succ, List.getElem_cons_zero, List.setIfInBounds_toArray, List.set_cons_zero, List.set_cons_succ])
  refine held_two (i := 5) (j := 10) (by kernel_rfl) rfl (by kernel_rfl) rfl (by kernel_rfl) (fun K hK => ?_) (fun K hK => ?_)
  · go_wp2_with (go_at_call 27; refine (HU.out _).mono ?_; rintro r y1 ⟨rfl, hb⟩; have s1 := HSi.out _ (blk_below (HSx.out _ s0).1 hb) (blk_below (HSx.out _ s0).2 hb); replace HM := Aside0.mk (mp_below HM.out hb); replace HB := Aside0.mk (below_step HB.out hb); clear hb)
    refine hK.out _ _ s1 ?_
    clear hK K s0
    have s0 := s1
    clear s1
    (try simp only [Act.put, List.getElem_toArray, List.getElem_cons_succ, List.getElem_cons_zero, List.setIfInBounds_toArray, List.set_cons_zero, List.set_cons_succ])
    refine held_two (i := 6) (j := 10) (by kernel_rfl) rfl (by kernel_rfl) rfl (by kernel_rfl) (fun K hK => ?_) (fun K hK => ?_)
    · go_wp2_with (go_at_call 26; refine (HFD.out _ HM.out.tb).mono ?_; rintro r y2 ⟨m, rfl, hm, htk⟩; have HN3 := Aside0.mk (show k3 ≠ T from fun e => by have h1 := (HSx.out _ s0).2; have h2 := HM.out.tb.blk; rw [e, h2] at h1; injection h1 with h3; injection h3 with _ h4; exact absurd h4 (by decide)); have s2 := HSi.out _ (ticks_blk htk (HSx.out _ s0).1 (mp_ne HM.out)) (ticks_blk htk (HSx.out _ s0).2 HN3.out); have HMM := Aside0.mk hm; have HTK := Aside0.mk (below_ticks HTB.out HB.out htk); clear hm htk)
      refine hK.out _ _ s2 ?_
      clear hK K s0
      have s0 := s2
      clear s2
      (try simp only [Act.put, List.getElem_toArray, List.getElem_cons_succ, List.getElem_cons_zero, List.setIfInBounds_toArray, List.set_cons_zero, List.set_cons_succ])
      refine wpAnyH_take (i := 7) (v := .tuple #[.agg (eE e), .bool false]) rfl (by kernel_rfl) (by kernel_rfl) (by kernel_rfl) (fun _ _ _ h => h) (Or.inl ⟨by kernel_rfl, fun w' h => by first | (go_simp; done) | (go_simp; rfl)⟩) s0 ?_
      (try simp only [Act.put, List.getElem_toArray, List.getElem_cons_succ, List.getElem_cons_zero, List.setIfInBounds_toArray, List.set_cons_zero, List.set_cons_succ])
      refine wpAnyH_take (i := 8) (v := .agg (eE e)) rfl (by kernel_rfl) (by kernel_rfl) (by kernel_rfl) (fun _ _ _ h => h) (Or.inl ⟨by kernel_rfl, fun w' h => by first | (go_simp; done) | (go_simp; rfl)⟩) s0 ?_
      (try simp only [Act.put, List.getElem_toArray, List.getElem_cons_succ, List.getElem_cons_zero, List.setIfInBounds_toArray, List.set_cons_zero, List.set_cons_succ])
      refine wpAnyH_take (i := 9) (v := .bool false) rfl (by kernel_rfl) (by kernel_rfl) (by kernel_rfl) (fun _ _ _ h => h) (Or.inl ⟨by kernel_rfl, fun w' h => by first | (go_simp; done) | (go_simp; rfl)⟩) s0 ?_
      (try simp only [Act.put, List.getElem_toArray, List.getElem_cons_succ, List.getElem_cons_zero, List.setIfInBounds_toArray, List.set_cons_zero, List.set_cons_succ])
      refine held_step (i := 10) (by kernel_rfl) rfl (by kernel_rfl) (fun K hK => ?_)
      refine wp_new_event (cs := eE noE) (t := 44) (by first | (go_simp; done) | (go_simp; rfl)) ?_
      intro k5 hg y5 hbox hb
      have H5 := Aside0.mk hbox
      have HZ5 := Aside0.mk (show w.heap.size ≤ k5 from Nat.le_trans HTK.out.size (Nat.le_of_eq hg.symm))
      have HN5 := Aside0.mk (show k5 ≠ T by have := (Array.getElem?_eq_some_iff.1 HTB.out).1; have := HTK.out.size; omega)
      have HNM := Aside0.mk (show M ≠ k5 ∧ k3 ≠ k5 by have h1 := (Array.getElem?_eq_some_iff.1 (HSx.out _ s0).1).1; have h2 := (Array.getElem?_eq_some_iff.1 (HSx.out _ s0).2).1; omega)
      have s5 := HSi.out _ (blk_below (HSx.out _ s0).1 hb) (blk_below (HSx.out _ s0).2 hb)
      replace HTK := Aside0.mk (ticks_below HTK.out hb)
      refine hK.out _ _ s5 ?_
      clear hK K s0 hg hbox hb
      have s0 := s5
      clear s5
      (try simp only [Act.put, List.getElem_toArray, List.getElem_cons_succ, List.getElem_cons_zero, List.setIfInBounds_toArray, List.set_cons_zero, List.set_cons_succ])
      refine held_step (i := 11) (by kernel_rfl) rfl (by kernel_rfl) (fun K hK => ?_)
      refine wp_store_row 44 (.tmp 5) (.tmp 15) rfl k5 (eE e) rfl rfl 44 (eE noE) H5.out (infoEE HEO.out) ((eE_size ok_noE).trans (eE_size HEO.out).symm) (eE_one _) ?_
      have s6 := HSi.out (y5.setRow k5 (eE e)) ((row_far HNM.out.1).trans (HSx.out _ s0).1) ((row_far HNM.out.2).trans (HSx.out _ s0).2)
      replace HTK := Aside0.mk (ticks_row HTK.out HZ5.out HN5.out (eE e))
      replace H5 := Aside0.mk (row_new (cells := eE e) H5.out)
      refine hK.out _ _ s6 ?_
      clear hK K s0
      generalize y5.setRow k5 (eE e) = y6 at s6 HTK H5 ⊢
      (try simp only [Act.put, List.getElem_toArray, List.getElem_cons_succ, List.getElem_cons_zero, List.setIfInBounds_toArray, List.set_cons_zero, List.set_cons_succ])
      refine wpAnyH_take (i := 12) (v := .bool false) rfl (by kernel_rfl) (by kernel_rfl) (by kernel_rfl) (fun _ _ _ h => h) (Or.inl ⟨by kernel_rfl, fun w' h => by first | (go_simp; done) | (go_simp; rfl)⟩) s6 ?_
      (try simp only [Act.put, List.getElem_toArray, List.getElem_cons_succ, List.getElem_cons_zero, List.setIfInBounds_toArray, List.set_cons_zero, List.set_cons_succ])
      refine wpAnyH_done (by kernel_rfl) ?_ _
      clear s6
      have cv := val_cell HEO.out H5.out
      go_wp2
      go_ret
      exact ⟨rfl, m, HMM.out, HTK.out⟩
    · refine wp_new_event (cs := eE noE) (t := 44) (by first | (go_simp; done) | (go_simp; rfl)) ?_
      intro k5 hg y5 hbox hb
      have H5 := Aside0.mk hbox
      have HZ5 := Aside0.mk (show w.heap.size ≤ k5 from Nat.le_trans HB.out.size (Nat.le_of_eq hg.symm))
      have HN5 := Aside0.mk (show k5 ≠ T by have := (Array.getElem?_eq_some_iff.1 HM.out.tb.blk).1; omega)
      have HNM := Aside0.mk (show M ≠ k5 ∧ k3 ≠ k5 by have h1 := (Array.getElem?_eq_some_iff.1 (HSx.out _ s0).1).1; have h2 := (Array.getElem?_eq_some_iff.1 (HSx.out _ s0).2).1; omega)
      have s5 := HSi.out _ (blk_below (HSx.out _ s0).1 hb) (blk_below (HSx.out _ s0).2 hb)
      replace HM := Aside0.mk (mp_below HM.out hb)
      replace HB := Aside0.mk (below_step HB.out hb)
      refine hK.out _ _ s5 ?_
      clear hK K s0 hg hbox hb
      have s0 := s5
      clear s5
      (try simp only [Act.put, List.getElem_toArray, List.getElem_cons_succ, List.getElem_cons_zero, List.setIfInBounds_toArray, List.set_cons_zero, List.set_cons_succ])
      refine held_step (i := 6) (by kernel_rfl) rfl (by kernel_rfl) (fun K hK => ?_)
      go_wp2_with (go_at_call 26; refine (HFD.out _ HM.out.tb).mono ?_; rintro r y2 ⟨m, rfl, hm, htk⟩; have HN3 := Aside0.mk (show k3 ≠ T from fun e => by have h1 := (HSx.out _ s0).2; have h2 := HM.out.tb.blk; rw [e, h2] at h1; injection h1 with h3; injection h3 with _ h4; exact absurd h4 (by decide)); have s2 := HSi.out _ (ticks_blk htk (HSx.out _ s0).1 (mp_ne HM.out)) (ticks_blk htk (HSx.out _ s0).2 HN3.out); have HMM := Aside0.mk hm; have HTK := Aside0.mk (below_ticks HTB.out HB.out htk); replace H5 := Aside0.mk (ticks_blk htk H5.out HN5.out); clear hm htk)
      refine hK.out _ _ s2 ?_
      clear hK K s0
      have s0 := s2
      clear s2
      (try simp only [Act.put, List.getElem_toArray, List.getElem_cons_succ, List.getElem_cons_zero, List.setIfInBounds_toArray, List.set_cons_zero, List.set_cons_succ])
      refine wpAnyH_take (i := 7) (v := .tuple #[.agg (eE e), .bool false]) rfl (by kernel_rfl) (by kernel_rfl) (by kernel_rfl) (fun _ _ _ h => h) (Or.inl ⟨by kernel_rfl, fun w' h => by first | (go_simp; done) | (go_simp; rfl)⟩) s0 ?_
      (try simp only [Act.put, List.getElem_toArray, List.getElem_cons_succ, List.getElem_cons_zero, List.setIfInBounds_toArray, List.set_cons_zero, List.set_cons_succ])
      refine wpAnyH_take (i := 8) (v := .agg (eE e)) rfl (by kernel_rfl) (by kernel_rfl) (by kernel_rfl) (fun _ _ _ h => h) (Or.inl ⟨by kernel_rfl, fun w' h => by first | (go_simp; done) | (go_simp; rfl)⟩) s0 ?_
      (try simp only [Act.put, List.getElem_toArray, List.getElem_cons_succ, List.getElem_cons_zero, List.setIfInBounds_toArray, List.set_cons_zero, List.set_cons_succ])
      refine wpAnyH_take (i := 9) (v := .bool false) rfl (by kernel_rfl) (by kernel_rfl) (by kernel_rfl) (fun _ _ _ h => h) (Or.inl ⟨by kernel_rfl, fun w' h => by first | (go_simp; done) | (go_simp; rfl)⟩) s0 ?_
      (try simp only [Act.put, List.getElem_toArray, List.getElem_cons_succ, List.getElem_cons_zero, List.setIfInBounds_toArray, List.set_cons_zero, List.set_cons_succ])
      refine held_step (i := 11) (by kernel_rfl) rfl (by kernel_rfl) (fun K hK => ?_)
      refine wp_store_row 44 (.tmp 5) (.tmp 15) rfl k5 (eE e) rfl rfl 44 (eE noE) H5.out (infoEE HEO.out) ((eE_size ok_noE).trans (eE_size HEO.out).symm) (eE_one _) ?_
      have s6 := HSi.out (y2.setRow k5 (eE e)) ((row_far HNM.out.1).trans (HSx.out _ s0).1) ((row_far HNM.out.2).trans (HSx.out _ s0).2)
      replace HTK := Aside0.mk (ticks_row HTK.out HZ5.out HN5.out (eE e))
      replace H5 := Aside0.mk (row_new (cells := eE e) H5.out)
      refine hK.out _ _ s6 ?_
      clear hK K s0
      generalize y2.setRow k5 (eE e) = y6 at s6 HTK H5 ⊢
      (try simp only [Act.put, List.getElem_toArray, List.getElem_cons_succ, List.getElem_cons_zero, List.setIfInBounds_toArray, List.set_cons_zero, List.set_cons_succ])
      refine wpAnyH_take (i := 12) (v := .bool false) rfl (by kernel_rfl) (by kernel_rfl) (by kernel_rfl) (fun _ _ _ h => h) (Or.inl ⟨by kernel_rfl, fun w' h => by first | (go_simp; done) | (go_simp; rfl)⟩) s6 ?_
      (try simp only [Act.put, List.getElem_toArray, List.getElem_cons_succ, List.getElem_cons_zero, List.setIfInBounds_toArray, List.set_cons_zero, List.set_cons_succ])
      refine wpAnyH_done (by kernel_rfl) ?_ _
      clear s6
      have cv := val_cell HEO.out H5.out
      go_wp2
      go_ret
      exact ⟨rfl, m, HMM.out, HTK.out⟩
  · refine wp_new_event (cs := eE noE) (t := 44) (by first | (go_simp; done) | (go_simp; rfl)) ?_
    intro k5 hg y5 hbox hb
    have H5 := Aside0.mk hbox
    have HZ5 := Aside0.mk (show w.heap.size ≤ k5 from Nat.le_trans HB.out.size (Nat.le_of_eq hg.symm))
    have HN5 := Aside0.mk (show k5 ≠ T by have := (Array.getElem?_eq_some_iff.1 HM.out.tb.blk).1; omega)
    have HNM := Aside0.mk (show M ≠ k5 ∧ k3 ≠ k5 by have h1 := (Array.getElem?_eq_some_iff.1 (HSx.out _ s0).1).1; have h2 := (Array.getElem?_eq_some_iff.1 (HSx.out _ s0).2).1; omega)
    have s5 := HSi.out _ (blk_below (HSx.out _ s0).1 hb) (blk_below (HSx.out _ s0).2 hb)
    replace HM := Aside0.mk (mp_below HM.out hb)
    replace HB := Aside0.mk (below_step HB.out hb)
    refine hK.out _ _ s5 ?_
    clear hK K s0 hg hbox hb
    have s0 := s5
    clear s5
    (try simp only [Act.put, List.getElem_toArray, List.getElem_cons_succ, List.getElem_cons_zero, List.setIfInBounds_toArray, List.set_cons_zero, List.set_cons_succ])
    refine held_step (i := 5) (by kernel_rfl) rfl (by kernel_rfl) (fun K hK => ?_)
    go_wp2_with (go_at_call 27; refine (HU.out _).mono ?_; rintro r y1 ⟨rfl, hb⟩; have s1 := HSi.out _ (blk_below (HSx.out _ s0).1 hb) (blk_below (HSx.out _ s0).2 hb); replace HM := Aside0.mk (mp_below HM.out hb); replace HB := Aside0.mk (below_step HB.out hb); replace H5 := Aside0.mk (blk_below H5.out hb); clear hb)
    refine hK.out _ _ s1 ?_
    clear hK K s0
    have s0 := s1
    clear s1
    (try simp only [Act.put, List.getElem_toArray, List.getElem_cons_succ, List.getElem_cons_zero, List.setIfInBounds_toArray, List.set_cons_zero, List.set_cons_succ])
    refine held_step (i := 6) (by kernel_rfl) rfl (by kernel_rfl) (fun K hK => ?_)
    go_wp2_with (go_at_call 26; refine (HFD.out _ HM.out.tb).mono ?_; rintro r y2 ⟨m, rfl, hm, htk⟩; have HN3 := Aside0.mk (show k3 ≠ T from fun e => by have h1 := (HSx.out _ s0).2; have h2 := HM.out.tb.blk; rw [e, h2] at h1; injection h1 with h3; injection h3 with _ h4; exact absurd h4 (by decide)); have s2 := HSi.out _ (ticks_blk htk (HSx.out _ s0).1 (mp_ne HM.out)) (ticks_blk htk (HSx.out _ s0).2 HN3.out); have HMM := Aside0.mk hm; have HTK := Aside0.mk (below_ticks HTB.out HB.out htk); replace H5 := Aside0.mk (ticks_blk htk H5.out HN5.out); clear hm htk)
    refine hK.out _ _ s2 ?_
    clear hK K s0
    have s0 := s2
    clear s2
    (try simp only [Act.put, List.getElem_toArray, List.getElem_cons_succ, List.getElem_cons_zero, List.setIfInBounds_toArray, List.set_cons_zero, List.set_cons_succ])
    refine wpAnyH_take (i := 7) (v := .tuple #[.agg (eE e), .bool false]) rfl (by kernel_rfl) (by kernel_rfl) (by kernel_rfl) (fun _ _ _ h => h) (Or.inl ⟨by kernel_rfl, fun w' h => by first | (go_simp; done) | (go_simp; rfl)⟩) s0 ?_
    (try simp only [Act.put, List.getElem_toArray, List.getElem_cons_succ, List.getElem_cons_zero, List.setIfInBounds_toArray, List.set_cons_zero, List.set_cons_succ])
    refine wpAnyH_take (i := 8) (v := .agg (eE e)) rfl (by kernel_rfl) (by kernel_rfl) (by kernel_rfl) (fun _ _ _ h => h) (Or.inl ⟨by kernel_rfl, fun w' h => by first | (go_simp; done) | (go_simp; rfl)⟩) s0 ?_
    (try simp only [Act.put, List.getElem_toArray, List.getElem_cons_succ, List.getElem_cons_zero, List.setIfInBounds_toArray, List.set_cons_zero, List.set_cons_succ])
    refine wpAnyH_take (i := 9) (v := .bool false) rfl (by kernel_rfl) (by kernel_rfl) (by kernel_rfl) (fun _ _ _ h => h) (Or.inl ⟨by kernel_rfl, fun w' h => by first | (go_simp; done) | (go_simp; rfl)⟩) s0 ?_
    (try simp only [Act.put, List.getElem_toArray, List.getElem_cons_succ, List.getElem_cons_zero, List.setIfInBounds_toArray, List.set_cons_zero, List.set_cons_succ])
    refine held_step (i := 11) (by kernel_rfl) rfl (by kernel_rfl) (fun K hK => ?_)
    refine wp_store_row 44 (.tmp 5) (.tmp 15) rfl k5 (eE e) rfl rfl 44 (eE noE) H5.out (infoEE HEO.out) ((eE_size ok_noE).trans (eE_size HEO.out).symm) (eE_one _) ?_
    have s6 := HSi.out (y2.setRow k5 (eE e)) ((row_far HNM.out.1).trans (HSx.out _ s0).1) ((row_far HNM.out.2).trans (HSx.out _ s0).2)
    replace HTK := Aside0.mk (ticks_row HTK.out HZ5.out HN5.out (eE e))
    replace H5 := Aside0.mk (row_new (cells := eE e) H5.out)
    refine hK.out _ _ s6 ?_
    clear hK K s0
    generalize y2.setRow k5 (eE e) = y6 at s6 HTK H5 ⊢
    (try simp only [Act.put, List.getElem_toArray, List.getElem_cons_succ, List.getElem_cons_zero, List.setIfInBounds_toArray, List.set_cons_zero, List.set_cons_succ])
    refine wpAnyH_take (i := 12) (v := .bool false) rfl (by kernel_rfl) (by kernel_rfl) (by kernel_rfl) (fun _ _ _ h => h) (Or.inl ⟨by kernel_rfl, fun w' h => by first | (go_simp; done) | (go_simp; rfl)⟩) s6 ?_
    (try simp only [Act.put, List.getElem_toArray, List.getElem_cons_succ, List.getElem_cons_zero, List.setIfInBounds_toArray, List.set_cons_zero, List.set_cons_succ])
    refine wpAnyH_done (by kernel_rfl) ?_ _
    clear s6
    have cv := val_cell HEO.out H5.out
    go_wp2
    go_ret
    exact ⟨rfl, m, HMM.out, HTK.out⟩
theorem map_Of (M T base : Nat) (st : Nat) (sv : Value) (l : List En) (a : Ad) (ha : a.ok) (w : World) (hm : Mp w M T base (st : Int) sv l) (hs : Sorted l) (hn : l.length ≤ 1000) (hst : st ≤ 1000000) :
    Calls Tryz.prog 15 #[.pointer (some ⟨M, 0, none⟩), .agg (eA a)] w fun r w' => r = .returned (.int .i64 (spOf l a)) ∧ ∃ m : Nat, m ≤ 129 * (blen l.length + 1) ∧ Ticks T 1 w w' ((st + m : Nat) : Int) := by
  cases hf : findQ l (unmapA a) with
  | none =>
    have e : spOf l a = 2 := by unfold spOf; rw [hf]
    rw [e]
    exact map_Of_false M T base st sv l a (unmapA a) ha (ok_unmap ha) rfl noE ok_noE (by rw [hf]; exact ⟨rfl, rfl⟩) w hm hs hn hst
  | some x =>
    have e : spOf l a = x.v := by unfold spOf; rw [hf]
    rw [e]
    refine map_Of_true M T base st sv l a (unmapA a) ha (ok_unmap ha) rfl x ?_ (by rw [hf]; exact ⟨rfl, rfl⟩) w hm hs hn hst
    have := ok_findQ hm.tb.ok (unmapA a)
    rw [hf] at this
    exact this
set_option maxHeartbeats 4000000 in
set_option maxRecDepth 100000 in
theorem space_New0 (w : World) : Calls Tryz.prog 20 #[.slice none 0 0] w fun r w' => ∃ M sv, r = .returned (.pointer (some ⟨M, 0, none⟩)) ∧ w.heap.size ≤ M ∧ Mp w' M w.heap.size w.heap.size 0 sv [] ∧ Below w.heap.size w w' := by
  have HB := Aside0.mk (Below.refl w.heap.size w)
  go_enter Tryz.func20, Tryz.ntmps20
  go_wp2_with (first
    | (go_at_call 35; refine (new_none _).mono ?_; rintro r w1 ⟨rfl, ⟨sv, ht⟩, hb⟩; have HT := Aside0.mk ht; replace HB := Aside0.mk (below_step HB.out hb); clear ht hb)
    | ((with_reducible refine gate_dst (N := 8) rfl ?_); refine box_event ?hg (N := 8) ?hd (cs := #[.pointer (some ⟨w.heap.size, 0, none⟩)]) (t := 71) ?hr ?_; (case hd => rfl); (case hg => rfl); (case hr => first | (go_simp; done) | (go_simp; rfl)); intro M hg w2 hbox hb; have HM := Aside0.mk hbox; have HZ := Aside0.mk (show w.heap.size ≤ M by rw [hg]; exact HB.out.size); replace HT := Aside0.mk (tb_below HT.out hb); replace HB := Aside0.mk (below_step HB.out hb); clear hb hg hbox))
  go_loopw [11] (fun v11 wr => v11 = .int .i64 0 ∧ Aside0 (wr = w2)) (fun _ _ => 0)
  case atStart => exact ⟨rfl, ⟨rfl⟩⟩
  case round =>
    obtain ⟨rfl, HW⟩ := hrel
    obtain rfl := HW.out
    go_wp2
    go_ret
    exact ⟨M, rfl, HZ.out, ⟨sv, ⟨HM.out, HT.out⟩⟩, HB.out⟩
theorem mp_row {w : World} {M T base g : Nat} {st : Int} {sv : Value} {l : List En} (h : Mp w M T base st sv l) (hM : M ≠ g) (hT : g ≠ T) (ho : some g ≠ sv.ownBlock) (cells : Array Value) : Mp (w.setRow g cells) M T base st sv l := ⟨(row_far hM).trans h.blk, tb_row h.tb hT ho⟩
/-- Entries that are added, one behind the other, all of one space. -/
def addAll (l : List En) (xs : List (ByteArray × Pf)) (v : Int) : List En := xs.foldl (fun l x => setE l x.2 v) l
theorem addAll_snoc (l : List En) (xs : List (ByteArray × Pf)) (x : ByteArray × Pf) (v : Int) : addAll l (xs ++ [x]) v = setE (addAll l xs v) x.2 v := by unfold addAll; rw [List.foldl_append]; rfl
def defL : List En := addAll (addAll [] dfs0 0) dfs1 1
theorem fine_setE {l : List En} {n : Nat} (h : Fine l n) {p : Pf} (hp : p.a.ok) (hm : mayQ p = true) (v : Int) : Fine (setE l p v) (n + 1) := by
  have := fine_set h hp v
  rw [if_pos hm] at this
  exact this
theorem fine_all : ∀ (xs : List (ByteArray × Pf)), (∀ (i : Nat) x, xs[i]? = some x → PfOk x.1 x.2) → ∀ (l : List En) (n : Nat) (v : Int), Fine l n → Fine (addAll l xs v) (n + xs.length)
  | [], _, l, n, v, h => h
  | x :: xs, hx, l, n, v, h => by
    have h0 := hx 0 x rfl
    have := fine_all xs (fun i y hy => hx (i + 1) y hy) (setE l x.2 v) (n + 1) v (fine_setE h h0.ok h0.may v)
    rw [show n + 1 + xs.length = n + (x :: xs).length by rw [List.length_cons]; omega] at this
    exact this
theorem fine_take (xs : List (ByteArray × Pf)) (hx : ∀ (i : Nat) x, xs[i]? = some x → PfOk x.1 x.2) (k : Nat) (l : List En) (n : Nat) (v : Int) (h : Fine l n) : Fine (addAll l (xs.take k) v) (n + k) := by
  have := fine_all (xs.take k) (fun i x hi => hx i x (by rw [List.getElem?_take] at hi; split at hi; exact hi; cases hi)) l n v h
  exact ⟨this.ok, this.sorted, this.may, Nat.le_trans this.len (Nat.add_le_add_left (by rw [List.length_take]; exact Nat.min_le_left _ _) _)⟩
theorem fine_def : Fine defL 11 := fine_all dfs1 dfs1_ok _ 4 1 (fine_all dfs0 dfs0_ok [] 0 0 fine_nil)
def strsOf (xs : List (ByteArray × Pf)) : Array Value := (xs.map fun x => Value.string x.1).toArray
theorem strs_cell {w : World} {g : Nat} {xs : List (ByteArray × Pf)} {t : TypeId} (h : w.heap[g]? = some (.cells (strsOf xs) t (0, 0))) {i : Nat} {x : ByteArray × Pf} (hi : xs[i]? = some x) : w.cell? ⟨g, i, none⟩ = some (.string x.1) := by
  rw [cell_of_row w g i _ t (0, 0) h]
  unfold strsOf
  rw [List.getElem?_toArray, List.getElem?_map, hi]
  rfl
set_option maxHeartbeats 8000000 in
set_option maxRecDepth 100000 in
theorem space_Default (w : World) (hmx : MaxIs w) : Calls Tryz.prog 9 #[] w fun r w' => ∃ M sv, r = .returned (.pointer (some ⟨M, 0, none⟩)) ∧ w.heap.size ≤ M ∧ Mp w' M w.heap.size w.heap.size 0 sv defL ∧ Below w.heap.size w w' := by
  have HB := Aside0.mk (Below.refl w.heap.size w)
  have HMX := Aside0.mk hmx
  clear hmx
  go_enter Tryz.func9, Tryz.ntmps9
  go_wp2_with (first
    | (go_at_call 20; refine (space_New0 _).mono ?_; rintro r w1 ⟨M, sv, rfl, hz, hm, hb⟩; have HM := Aside0.mk hm; have HZ := Aside0.mk hz; replace HB := Aside0.mk (below_step HB.out hb); clear hm hb hz))
  obtain ⟨gA, hgA⟩ : ∃ g, w1.heap.size = g := ⟨_, rfl⟩
  have x0 : ∀ w : World, (Instr.index 65 (.agg #[.slice (some ⟨gA, 0, none⟩) 4 4, .slice (some ⟨gA + 1, 0, none⟩) 7 7]) (.int .i64 0)).run Tryz.prog w = .ok (.slice (some ⟨gA, 0, none⟩) 4 4) w := fun _ => by kernel_rfl
  have x1 : ∀ w : World, (Instr.index 65 (.agg #[.slice (some ⟨gA, 0, none⟩) 4 4, .slice (some ⟨gA + 1, 0, none⟩) 7 7]) (.int .i64 1)).run Tryz.prog w = .ok (.slice (some ⟨gA + 1, 0, none⟩) 7 7) w := fun _ => by kernel_rfl
  obtain ⟨w2, hw2⟩ : ∃ w2, (w1.alloc (.cells (strsOf dfs0) 9)).alloc (.cells (strsOf dfs1) 9) = w2 := ⟨_, rfl⟩
  have hs1 : (w1.alloc (.cells (strsOf dfs0) 9)).heap.size = w1.heap.size + 1 := World.size_alloc _ _
  have hb12 : Below w1.heap.size w1 w2 := by rw [← hw2]; exact ((Below.refl _ w1).alloc (Nat.le_refl _) _).alloc (by omega) _
  have HR := Aside0.mk (show w2.heap[gA]? = some (.cells (strsOf dfs0) 9 (0, 0)) ∧ w2.heap[gA + 1]? = some (.cells (strsOf dfs1) 9 (0, 0)) by
    rw [← hw2, ← hgA]
    exact ⟨(Below.heap_alloc _ _ _ (by omega)).trans (World.alloc_heap_new w1 _), by rw [← hs1]; exact World.alloc_heap_new _ _⟩)
  have HNT := Aside0.mk (show gA ≠ w.heap.size ∧ gA + 1 ≠ w.heap.size by have h1 := (Array.getElem?_eq_some_iff.1 HM.out.tb.blk).1; omega)
  replace HM := Aside0.mk (show ∃ sv, Mp w2 M w.heap.size w.heap.size 0 sv [] from ⟨sv, mp_below HM.out hb12⟩)
  replace HB := Aside0.mk (below_step HB.out hb12)
  change Code.wp _ _ _ _ ((w1.alloc (.cells (strsOf dfs0) 9)).alloc (.cells (strsOf dfs1) 9))
  rw [hw2]
  simp only [hgA]
  clear hw2 hb12 hs1 hgA
  go_loopw [12] (fun v12 wr => ∃ i : Nat, v12 = .int .i64 (i : Int) ∧ Aside0 (i ≤ 2) ∧ Aside0 (∃ sv, Mp wr M w.heap.size w.heap.size 0 sv (if i = 0 then [] else if i = 1 then addAll [] dfs0 0 else defL)) ∧ Aside0 (wr.heap[gA]? = some (.cells (strsOf dfs0) 9 (0, 0)) ∧ wr.heap[gA + 1]? = some (.cells (strsOf dfs1) 9 (0, 0))) ∧ Aside0 (Below w.heap.size w wr)) (fun v12 _ => 2 - (intOf v12).toNat)
  case atStart => exact ⟨0, rfl, ⟨by decide⟩, HM, HR, HB⟩
  case round =>
    clear HM HR HB
    obtain ⟨i, rfl, HI, HM, HR, HB⟩ := hrel
    have hi3 : i = 0 ∨ i = 1 ∨ i = 2 := by have := HI.out; omega
    rcases hi3 with rfl | rfl | rfl
    · replace HM := Aside0.mk (show ∃ sv, Mp wr M w.heap.size w.heap.size 0 sv [] from HM.out)
      go_wp2
      go_loopw [18] (fun v18 wi => ∃ j : Nat, v18 = .int .i64 (j : Int) ∧ Aside0 (j ≤ 4) ∧ Aside0 (∃ sv, Mp wi M w.heap.size w.heap.size 0 sv (addAll [] (dfs0.take j) 0)) ∧ Aside0 (wi.heap[gA]? = some (.cells (strsOf dfs0) 9 (0, 0)) ∧ wi.heap[gA + 1]? = some (.cells (strsOf dfs1) 9 (0, 0))) ∧ Aside0 (Below w.heap.size w wi)) (fun v18 _ => 4 - (intOf v18).toNat)
      case atStart => exact ⟨0, rfl, ⟨Nat.zero_le _⟩, ⟨HM.out⟩, HR, HB⟩
      case round =>
        clear HM HR HB
        obtain ⟨j, rfl, HJ, HM, HR, HB⟩ := hrel
        by_cases hj : j < 4
        · have e0 : decide ((j : Int) < 4) = true := decide_eq_true (by omega)
          have e0n : decide (j < 4) = true := decide_eq_true hj
          have e1 : (0 : Int) ≤ (j : Int) := Int.natCast_nonneg _
          have e2 : (j : Int) < 4 := by omega
          obtain ⟨x, hx⟩ : ∃ x, dfs0[j]? = some x := ⟨dfs0[j]'hj, List.getElem?_eq_getElem hj⟩
          have HPF := Aside0.mk (dfs0_ok j x hx)
          have cp := strs_cell HR.out.1 hx
          obtain ⟨svi, hmi⟩ := HM.out
          have HMI := Aside0.mk hmi
          have HFI := Aside0.mk (fine_take dfs0 dfs0_ok j [] 0 0 fine_nil)
          have HLI := Aside0.mk (show (addAll [] (dfs0.take j) 0).length ≤ 1000 by have := HFI.out.len; omega)
          have HSN := Aside0.mk (show addAll [] (dfs0.take (j + 1)) 0 = if mayQ x.2 = true then setE (addAll [] (dfs0.take j) 0) x.2 0 else addAll [] (dfs0.take j) 0 by rw [if_pos HPF.out.may, List.take_add_one, hx]; exact addAll_snoc _ _ x 0)
          have E1 := Aside0.mk (wrap_up6 j (by omega))
          clear hx hmi HM
          go_wp2_with (first
            | (go_at_call 21; refine (HPF.out.run _ (maxis_below HMX.out HB.out)).mono ?_; rintro r y1 ⟨rfl, hb⟩; replace HMI := Aside0.mk (mp_below HMI.out hb); replace HR := Aside0.mk (And.intro (blk_below HR.out.1 hb) (blk_below HR.out.2 hb)); replace HB := Aside0.mk (below_step HB.out hb); clear hb cp)
            | ((with_reducible refine gate_dst (N := 6) rfl ?_); refine box_event ?hg (N := 6) ?hd (cs := eP noP) (t := 42) ?hr ?_; (case hd => rfl); (case hg => rfl); (case hr => first | (go_simp; done) | (go_simp; rfl)); intro k6 hg y2 hbox hb; have H6 := Aside0.mk hbox; have HG6 := Aside0.mk (show w.heap.size ≤ k6 by rw [hg]; exact HB.out.size); have HNA := Aside0.mk (show gA ≠ k6 ∧ gA + 1 ≠ k6 by have h1 := (Array.getElem?_eq_some_iff.1 HR.out.1).1; have h2 := (Array.getElem?_eq_some_iff.1 HR.out.2).1; omega); have HNM := Aside0.mk (show M ≠ k6 ∧ k6 ≠ w.heap.size by have h1 := (Array.getElem?_eq_some_iff.1 HMI.out.blk).1; have h2 := (Array.getElem?_eq_some_iff.1 HMI.out.tb.blk).1; omega); have HF6 := Aside0.mk (own_fresh HMI.out.tb.row (Nat.le_of_eq hg.symm)); replace HMI := Aside0.mk (mp_below HMI.out hb); replace HR := Aside0.mk (And.intro (blk_below HR.out.1 hb) (blk_below HR.out.2 hb)); replace HB := Aside0.mk (below_step HB.out hb); clear hb hg hbox)
            | ((with_reducible refine gate_store (t := 42) (p := 6) rfl ?_); refine wpList_store_row rfl 42 (.tmp 6) (.tmp 25) rfl k6 (eP x.2) rfl rfl 42 (eP noP) H6.out (infoEP HPF.out.ok) ((show (eP noP).size = 18 from rfl).trans (eP_size HPF.out.ok).symm) (eP_one _) ?_; replace H6 := Aside0.mk (row_new (cells := eP x.2) H6.out); replace HMI := Aside0.mk (mp_row HMI.out HNM.out.1 HNM.out.2 HF6.out (eP x.2)); replace HR := Aside0.mk (And.intro ((row_far (cells := eP x.2) HNA.out.1).trans HR.out.1) ((row_far (cells := eP x.2) HNA.out.2).trans HR.out.2)); replace HB := Aside0.mk (below_row HB.out HG6.out (eP x.2)); generalize y2.setRow k6 (eP x.2) = y3 at H6 HMI HR HB ⊢)
            | ((with_reducible refine gate_dst (N := 28) rfl ?_); refine wpList_load_row rfl 42 (.tmp 6) rfl k6 rfl 42 (eP x.2) (0, 0) _ H6.out Tryz.underlying42 rfl (infoEP HPF.out.ok) ?_)
            | (go_at_call 11; refine (map_Add_yes M w.heap.size w.heap.size 0 svi _ _ x.2 HPF.out.ok 0 0 rfl (if_pos HPF.out.may).symm HSN.out _ HMI.out HFI.out.sorted HLI.out HB.out.size).mono ?_; rintro r y4 ⟨rfl, HM2, HCH⟩; have HR2 := Aside0.mk (And.intro (chg_keep HCH.out HR.out.1 HNT.out.1 (by decide)) (chg_keep HCH.out HR.out.2 HNT.out.2 (by decide))); have HB2 := Aside0.mk (HB.out.trans (chg_base HCH.out (Nat.le_refl _) HB.out.size))))
          go_roundw
          case rel =>
            refine ⟨_, _, _, _, _, _, _, _, _, _, _, _, _, _, _, _, _, ?_, rfl⟩
            exact ⟨j + 1, (by first | rfl | exact congrArg (Value.int .i64) (by omega)), ⟨by omega⟩, HM2, HR2, HB2⟩
          case measure => exact measure_up 4 j _ (by first | rfl | omega) (by omega)
        · have hjn : j = 4 := by have := HJ.out; omega
          subst hjn
          go_wp2
          exact ⟨⟨1, rfl, ⟨by decide⟩, HM, HR, HB⟩, by decide⟩
    · replace HM := Aside0.mk (show ∃ sv, Mp wr M w.heap.size w.heap.size 0 sv (addAll [] dfs0 0) from HM.out)
      go_wp2
      go_loopw [18] (fun v18 wi => ∃ j : Nat, v18 = .int .i64 (j : Int) ∧ Aside0 (j ≤ 7) ∧ Aside0 (∃ sv, Mp wi M w.heap.size w.heap.size 0 sv (addAll (addAll [] dfs0 0) (dfs1.take j) 1)) ∧ Aside0 (wi.heap[gA]? = some (.cells (strsOf dfs0) 9 (0, 0)) ∧ wi.heap[gA + 1]? = some (.cells (strsOf dfs1) 9 (0, 0))) ∧ Aside0 (Below w.heap.size w wi)) (fun v18 _ => 7 - (intOf v18).toNat)
      case atStart => exact ⟨0, rfl, ⟨Nat.zero_le _⟩, ⟨HM.out⟩, HR, HB⟩
      case round =>
        clear HM HR HB
        obtain ⟨j, rfl, HJ, HM, HR, HB⟩ := hrel
        by_cases hj : j < 7
        · have e0 : decide ((j : Int) < 7) = true := decide_eq_true (by omega)
          have e0n : decide (j < 7) = true := decide_eq_true hj
          have e1 : (0 : Int) ≤ (j : Int) := Int.natCast_nonneg _
          have e2 : (j : Int) < 7 := by omega
          obtain ⟨x, hx⟩ : ∃ x, dfs1[j]? = some x := ⟨dfs1[j]'hj, List.getElem?_eq_getElem hj⟩
          have HPF := Aside0.mk (dfs1_ok j x hx)
          have cp := strs_cell HR.out.2 hx
          obtain ⟨svi, hmi⟩ := HM.out
          have HMI := Aside0.mk hmi
          have HFI := Aside0.mk (fine_take dfs1 dfs1_ok j (addAll [] dfs0 0) 4 1 (fine_all dfs0 dfs0_ok [] 0 0 fine_nil))
          have HLI := Aside0.mk (show (addAll (addAll [] dfs0 0) (dfs1.take j) 1).length ≤ 1000 by have := HFI.out.len; omega)
          have HSN := Aside0.mk (show addAll (addAll [] dfs0 0) (dfs1.take (j + 1)) 1 = if mayQ x.2 = true then setE (addAll (addAll [] dfs0 0) (dfs1.take j) 1) x.2 1 else addAll (addAll [] dfs0 0) (dfs1.take j) 1 by rw [if_pos HPF.out.may, List.take_add_one, hx]; exact addAll_snoc _ _ x 1)
          have E1 := Aside0.mk (wrap_up6 j (by omega))
          clear hx hmi HM
          go_wp2_with (first
            | (go_at_call 21; refine (HPF.out.run _ (maxis_below HMX.out HB.out)).mono ?_; rintro r y1 ⟨rfl, hb⟩; replace HMI := Aside0.mk (mp_below HMI.out hb); replace HR := Aside0.mk (And.intro (blk_below HR.out.1 hb) (blk_below HR.out.2 hb)); replace HB := Aside0.mk (below_step HB.out hb); clear hb cp)
            | ((with_reducible refine gate_dst (N := 6) rfl ?_); refine box_event ?hg (N := 6) ?hd (cs := eP noP) (t := 42) ?hr ?_; (case hd => rfl); (case hg => rfl); (case hr => first | (go_simp; done) | (go_simp; rfl)); intro k6 hg y2 hbox hb; have H6 := Aside0.mk hbox; have HG6 := Aside0.mk (show w.heap.size ≤ k6 by rw [hg]; exact HB.out.size); have HNA := Aside0.mk (show gA ≠ k6 ∧ gA + 1 ≠ k6 by have h1 := (Array.getElem?_eq_some_iff.1 HR.out.1).1; have h2 := (Array.getElem?_eq_some_iff.1 HR.out.2).1; omega); have HNM := Aside0.mk (show M ≠ k6 ∧ k6 ≠ w.heap.size by have h1 := (Array.getElem?_eq_some_iff.1 HMI.out.blk).1; have h2 := (Array.getElem?_eq_some_iff.1 HMI.out.tb.blk).1; omega); have HF6 := Aside0.mk (own_fresh HMI.out.tb.row (Nat.le_of_eq hg.symm)); replace HMI := Aside0.mk (mp_below HMI.out hb); replace HR := Aside0.mk (And.intro (blk_below HR.out.1 hb) (blk_below HR.out.2 hb)); replace HB := Aside0.mk (below_step HB.out hb); clear hb hg hbox)
            | ((with_reducible refine gate_store (t := 42) (p := 6) rfl ?_); refine wpList_store_row rfl 42 (.tmp 6) (.tmp 25) rfl k6 (eP x.2) rfl rfl 42 (eP noP) H6.out (infoEP HPF.out.ok) ((show (eP noP).size = 18 from rfl).trans (eP_size HPF.out.ok).symm) (eP_one _) ?_; replace H6 := Aside0.mk (row_new (cells := eP x.2) H6.out); replace HMI := Aside0.mk (mp_row HMI.out HNM.out.1 HNM.out.2 HF6.out (eP x.2)); replace HR := Aside0.mk (And.intro ((row_far (cells := eP x.2) HNA.out.1).trans HR.out.1) ((row_far (cells := eP x.2) HNA.out.2).trans HR.out.2)); replace HB := Aside0.mk (below_row HB.out HG6.out (eP x.2)); generalize y2.setRow k6 (eP x.2) = y3 at H6 HMI HR HB ⊢)
            | ((with_reducible refine gate_dst (N := 28) rfl ?_); refine wpList_load_row rfl 42 (.tmp 6) rfl k6 rfl 42 (eP x.2) (0, 0) _ H6.out Tryz.underlying42 rfl (infoEP HPF.out.ok) ?_)
            | (go_at_call 11; refine (map_Add_yes M w.heap.size w.heap.size 0 svi _ _ x.2 HPF.out.ok 1 0 rfl (if_pos HPF.out.may).symm HSN.out _ HMI.out HFI.out.sorted HLI.out HB.out.size).mono ?_; rintro r y4 ⟨rfl, HM2, HCH⟩; have HR2 := Aside0.mk (And.intro (chg_keep HCH.out HR.out.1 HNT.out.1 (by decide)) (chg_keep HCH.out HR.out.2 HNT.out.2 (by decide))); have HB2 := Aside0.mk (HB.out.trans (chg_base HCH.out (Nat.le_refl _) HB.out.size))))
          go_roundw
          case rel =>
            refine ⟨_, _, _, _, _, _, _, _, _, _, _, _, _, _, _, _, _, ?_, rfl⟩
            exact ⟨j + 1, (by first | rfl | exact congrArg (Value.int .i64) (by omega)), ⟨by omega⟩, HM2, HR2, HB2⟩
          case measure => exact measure_up 7 j _ (by first | rfl | omega) (by omega)
        · have hjn : j = 7 := by have := HJ.out; omega
          subst hjn
          go_wp2
          exact ⟨⟨2, rfl, ⟨by decide⟩, HM, HR, HB⟩, by decide⟩
    · obtain ⟨sv2, hm2⟩ := HM.out
      go_wp2
      go_ret
      exact ⟨M, sv2, rfl, HZ.out, hm2, HB.out⟩
def six0 : Ad := ⟨6, zeros16⟩
theorem ok_six0 : six0.ok := ok_zeros 6
set_option maxHeartbeats 8000000 in
set_option maxRecDepth 100000 in
theorem ref04_Of6 (g0 g1 g2 g3 g4 g5 g6 g7 : Int) (hr : ∀ x ∈ ([g0, g1, g2, g3, g4, g5, g6, g7] : List Int), 0 ≤ x ∧ x ≤ 65535) (w : World) : Calls Tryz.prog 72 #[.agg (e8 [g0, g1, g2, g3, g4, g5, g6, g7])] w fun e w' => e = .returned (.agg (eA (of6 [g0, g1, g2, g3, g4, g5, g6, g7]))) ∧ Below w.heap.size w w' := by
  have HB := Aside0.mk (Below.refl w.heap.size w)
  have HO := Aside0.mk (ok_of6 g0 g1 g2 g3 g4 g5 g6 g7)
  rw [of6_eq] at HO ⊢
  simp only [List.mem_cons, List.not_mem_nil, or_false, forall_eq_or_imp, forall_eq] at hr
  obtain ⟨r0, r1, r2, r3, r4, r5, r6, r7⟩ := hr
  have R0 := Aside0.mk r0
  have R1 := Aside0.mk r1
  have R2 := Aside0.mk r2
  have R3 := Aside0.mk r3
  have R4 := Aside0.mk r4
  have R5 := Aside0.mk r5
  have R6 := Aside0.mk r6
  have R7 := Aside0.mk r7
  clear r0 r1 r2 r3 r4 r5 r6 r7
  go_enter Tryz.func72, Tryz.ntmps72
  go_wp2_with (first
    | ((with_reducible refine gate_dst (N := 1) rfl ?_); refine box_event ?hg (N := 1) ?hd (cs := e8 [g0, g1, g2, g3, g4, g5, g6, g7]) (t := 76) ?hr ?_; (case hd => rfl); (case hg => rfl); (case hr => first | (go_simp; done) | (go_simp; rfl)); intro k1 hg w1 hbox hb; have H1 := Aside0.mk hbox; have HG1 := Aside0.mk (show w.heap.size ≤ k1 by rw [hg]; exact HB.out.size); skip; replace HB := Aside0.mk (below_step HB.out hb); clear hb hg hbox)
    | ((with_reducible refine gate_dst (N := 2) rfl ?_); refine box_event ?hg (N := 2) ?hd (cs := eA noA) (t := 30) ?hr ?_; (case hd => rfl); (case hg => rfl); (case hr => first | (go_simp; done) | (go_simp; rfl)); intro k2 hg w2 hbox hb; have H2 := Aside0.mk hbox; have HG2 := Aside0.mk (show w.heap.size ≤ k2 by rw [hg]; exact HB.out.size); have HN12 := Aside0.mk (show k1 ≠ k2 by have := (Array.getElem?_eq_some_iff.1 H1.out).1; omega); replace H1 := Aside0.mk (blk_below H1.out hb); replace HB := Aside0.mk (below_step HB.out hb); clear hb hg hbox)
    | ((with_reducible refine gate_dst (N := 5) rfl ?_); refine Kd.event_run (v := .agg (eA six0)) rfl ?hr ?_; (case hr => first | (go_simp; done) | (go_simp; rfl)))
    | ((with_reducible refine gate_dst (N := 3) rfl ?_); refine box_event ?hg (N := 3) ?hd (cs := eA noA) (t := 30) ?hr ?_; (case hd => rfl); (case hg => rfl); (case hr => first | (go_simp; done) | (go_simp; rfl)); intro k3 hg w3 hbox hb; have H3 := Aside0.mk hbox; have HG3 := Aside0.mk (show w.heap.size ≤ k3 by rw [hg]; exact HB.out.size); have HN3 := Aside0.mk (show k1 ≠ k3 ∧ k2 ≠ k3 by have h1 := (Array.getElem?_eq_some_iff.1 H1.out).1; have h2 := (Array.getElem?_eq_some_iff.1 H2.out).1; omega); replace H1 := Aside0.mk (blk_below H1.out hb); replace H2 := Aside0.mk (blk_below H2.out hb); replace HB := Aside0.mk (below_step HB.out hb); clear hb hg hbox)
    | ((with_reducible refine gate_store (t := 30) (p := 3) rfl ?_); refine wpList_store_row rfl 30 (.tmp 3) (.tmp 5) rfl k3 (eA six0) rfl rfl 30 (eA noA) H3.out (infoE ok_six0) rfl (eA_one _) ?_; replace H1 := Aside0.mk ((row_far (cells := eA six0) HN3.out.1).trans H1.out); replace H2 := Aside0.mk ((row_far (cells := eA six0) HN3.out.2).trans H2.out); replace H3 := Aside0.mk (row_new (cells := eA six0) H3.out); replace HB := Aside0.mk (below_row HB.out HG3.out (eA six0)); generalize w3.setRow k3 (eA six0) = w4 at H1 H2 H3 HB ⊢))
  go_loopw [4] (fun v4 wr => ∃ i : Nat, v4 = .int .i64 (i : Int) ∧ Aside0 (i ≤ 8) ∧ Aside0 (wr.heap[k1]? = some (.cells (e8 [g0, g1, g2, g3, g4, g5, g6, g7]) 76 (0, 0)) ∧ wr.heap[k2]? = some (.cells (eA noA) 30 (0, 0)) ∧ wr.heap[k3]? = some (.cells (eA (if i = 0 then ⟨6, [0, 0, 0, 0, 0, 0, 0, 0, 0, 0, 0, 0, 0, 0, 0, 0]⟩ else if i = 1 then ⟨6, [g0 / 256 % 256, g0 % 256, 0, 0, 0, 0, 0, 0, 0, 0, 0, 0, 0, 0, 0, 0]⟩ else if i = 2 then ⟨6, [g0 / 256 % 256, g0 % 256, g1 / 256 % 256, g1 % 256, 0, 0, 0, 0, 0, 0, 0, 0, 0, 0, 0, 0]⟩ else if i = 3 then ⟨6, [g0 / 256 % 256, g0 % 256, g1 / 256 % 256, g1 % 256, g2 / 256 % 256, g2 % 256, 0, 0, 0, 0, 0, 0, 0, 0, 0, 0]⟩ else if i = 4 then ⟨6, [g0 / 256 % 256, g0 % 256, g1 / 256 % 256, g1 % 256, g2 / 256 % 256, g2 % 256, g3 / 256 % 256, g3 % 256, 0, 0, 0, 0, 0, 0, 0, 0]⟩ else if i = 5 then ⟨6, [g0 / 256 % 256, g0 % 256, g1 / 256 % 256, g1 % 256, g2 / 256 % 256, g2 % 256, g3 / 256 % 256, g3 % 256, g4 / 256 % 256, g4 % 256, 0, 0, 0, 0, 0, 0]⟩ else if i = 6 then ⟨6, [g0 / 256 % 256, g0 % 256, g1 / 256 % 256, g1 % 256, g2 / 256 % 256, g2 % 256, g3 / 256 % 256, g3 % 256, g4 / 256 % 256, g4 % 256, g5 / 256 % 256, g5 % 256, 0, 0, 0, 0]⟩ else if i = 7 then ⟨6, [g0 / 256 % 256, g0 % 256, g1 / 256 % 256, g1 % 256, g2 / 256 % 256, g2 % 256, g3 / 256 % 256, g3 % 256, g4 / 256 % 256, g4 % 256, g5 / 256 % 256, g5 % 256, g6 / 256 % 256, g6 % 256, 0, 0]⟩ else ⟨6, [g0 / 256 % 256, g0 % 256, g1 / 256 % 256, g1 % 256, g2 / 256 % 256, g2 % 256, g3 / 256 % 256, g3 % 256, g4 / 256 % 256, g4 % 256, g5 / 256 % 256, g5 % 256, g6 / 256 % 256, g6 % 256, g7 / 256 % 256, g7 % 256]⟩)) 30 (0, 0)) ∧ Below w.heap.size w wr)) (fun v4 _ => 8 - (intOf v4).toNat)
  case atStart => exact ⟨0, rfl, ⟨by omega⟩, ⟨H1.out, H2.out, H3.out, HB.out⟩⟩
  case round =>
    obtain ⟨i, rfl, HI, HE⟩ := hrel
    clear H1 H2 H3 HB
    have H1 := Aside0.mk HE.out.1
    have H2 := Aside0.mk HE.out.2.1
    have H3 := Aside0.mk HE.out.2.2.1
    have HB := Aside0.mk HE.out.2.2.2
    clear HE
    have hi9 : i = 0 ∨ i = 1 ∨ i = 2 ∨ i = 3 ∨ i = 4 ∨ i = 5 ∨ i = 6 ∨ i = 7 ∨ i = 8 := by have := HI.out; omega
    rcases hi9 with rfl | rfl | rfl | rfl | rfl | rfl | rfl | rfl | rfl
    · have c1 : wr.cell? ⟨k1, 0, none⟩ = some (.int .u16 g0) := blk_cell H1.out 0
      have x2 : wr.cell? ⟨k3, 1, none⟩ = some (.int .u8 0) := blk_cell H3.out 1
      have x3 : wr.cell? ⟨k3, 2, none⟩ = some (.int .u8 0) := blk_cell H3.out 2
      have z2 : wr.frozen? ⟨k3, 1, none⟩ = false := blk_frozen H3.out 1
      have y3 : ∀ v : Value, (wr.setCell ⟨k3, 1, none⟩ v).cell? ⟨k3, 2, none⟩ = some (.int .u8 0) := fun v => (cell_two wr k3 1 2 v (by decide)).trans x3
      have q3 : ∀ v : Value, (wr.setCell ⟨k3, 1, none⟩ v).frozen? ⟨k3, 2, none⟩ = false := fun v => (froz_two wr k3 1 2 v H3.out)
      have y1 : ∀ (o : Nat) (v : Value), (wr.setCell ⟨k3, o, none⟩ v).cell? ⟨k1, 0, none⟩ = some (.int .u16 g0) := fun o v => (World.cell?_of_block (Below.heap_setCell wr ⟨k3, o, none⟩ v k1 HN3.out.1)).trans c1
      have e1 : Int.tdiv g0 256 = g0 / 256 := Int.tdiv_eq_ediv_of_nonneg R0.out.1
      have e2 : Int.tmod g0 256 = g0 % 256 := Int.tmod_eq_emod_of_nonneg R0.out.1
      have e3 : g0 / 256 % 65536 = g0 / 256 := by have := R0.out; omega
      have e4 : g0 % 256 % 65536 = g0 % 256 := by omega
      go_wp2
      go_roundw
      case rel => exact ⟨1, rfl, ⟨by decide⟩, ⟨((Below.heap_setCell _ ⟨k3, 2, none⟩ _ k1 HN3.out.1).trans (Below.heap_setCell wr ⟨k3, 1, none⟩ _ k1 HN3.out.1)).trans H1.out, ((Below.heap_setCell _ ⟨k3, 2, none⟩ _ k2 HN3.out.2).trans (Below.heap_setCell wr ⟨k3, 1, none⟩ _ k2 HN3.out.2)).trans H2.out, blk_put (blk_put H3.out 1 (.int .u8 (g0 / 256 % 256)) rfl) 2 (.int .u8 (g0 % 256)) rfl, (HB.out.setCell HG3.out _).setCell HG3.out _⟩⟩
      case measure => decide
    · have c1 : wr.cell? ⟨k1, 1, none⟩ = some (.int .u16 g1) := blk_cell H1.out 1
      have x2 : wr.cell? ⟨k3, 3, none⟩ = some (.int .u8 0) := blk_cell H3.out 3
      have x3 : wr.cell? ⟨k3, 4, none⟩ = some (.int .u8 0) := blk_cell H3.out 4
      have z2 : wr.frozen? ⟨k3, 3, none⟩ = false := blk_frozen H3.out 3
      have y3 : ∀ v : Value, (wr.setCell ⟨k3, 3, none⟩ v).cell? ⟨k3, 4, none⟩ = some (.int .u8 0) := fun v => (cell_two wr k3 3 4 v (by decide)).trans x3
      have q3 : ∀ v : Value, (wr.setCell ⟨k3, 3, none⟩ v).frozen? ⟨k3, 4, none⟩ = false := fun v => (froz_two wr k3 3 4 v H3.out)
      have y1 : ∀ (o : Nat) (v : Value), (wr.setCell ⟨k3, o, none⟩ v).cell? ⟨k1, 1, none⟩ = some (.int .u16 g1) := fun o v => (World.cell?_of_block (Below.heap_setCell wr ⟨k3, o, none⟩ v k1 HN3.out.1)).trans c1
      have e1 : Int.tdiv g1 256 = g1 / 256 := Int.tdiv_eq_ediv_of_nonneg R1.out.1
      have e2 : Int.tmod g1 256 = g1 % 256 := Int.tmod_eq_emod_of_nonneg R1.out.1
      have e3 : g1 / 256 % 65536 = g1 / 256 := by have := R1.out; omega
      have e4 : g1 % 256 % 65536 = g1 % 256 := by omega
      go_wp2
      go_roundw
      case rel => exact ⟨2, rfl, ⟨by decide⟩, ⟨((Below.heap_setCell _ ⟨k3, 4, none⟩ _ k1 HN3.out.1).trans (Below.heap_setCell wr ⟨k3, 3, none⟩ _ k1 HN3.out.1)).trans H1.out, ((Below.heap_setCell _ ⟨k3, 4, none⟩ _ k2 HN3.out.2).trans (Below.heap_setCell wr ⟨k3, 3, none⟩ _ k2 HN3.out.2)).trans H2.out, blk_put (blk_put H3.out 3 (.int .u8 (g1 / 256 % 256)) rfl) 4 (.int .u8 (g1 % 256)) rfl, (HB.out.setCell HG3.out _).setCell HG3.out _⟩⟩
      case measure => decide
    · have c1 : wr.cell? ⟨k1, 2, none⟩ = some (.int .u16 g2) := blk_cell H1.out 2
      have x2 : wr.cell? ⟨k3, 5, none⟩ = some (.int .u8 0) := blk_cell H3.out 5
      have x3 : wr.cell? ⟨k3, 6, none⟩ = some (.int .u8 0) := blk_cell H3.out 6
      have z2 : wr.frozen? ⟨k3, 5, none⟩ = false := blk_frozen H3.out 5
      have y3 : ∀ v : Value, (wr.setCell ⟨k3, 5, none⟩ v).cell? ⟨k3, 6, none⟩ = some (.int .u8 0) := fun v => (cell_two wr k3 5 6 v (by decide)).trans x3
      have q3 : ∀ v : Value, (wr.setCell ⟨k3, 5, none⟩ v).frozen? ⟨k3, 6, none⟩ = false := fun v => (froz_two wr k3 5 6 v H3.out)
      have y1 : ∀ (o : Nat) (v : Value), (wr.setCell ⟨k3, o, none⟩ v).cell? ⟨k1, 2, none⟩ = some (.int .u16 g2) := fun o v => (World.cell?_of_block (Below.heap_setCell wr ⟨k3, o, none⟩ v k1 HN3.out.1)).trans c1
      have e1 : Int.tdiv g2 256 = g2 / 256 := Int.tdiv_eq_ediv_of_nonneg R2.out.1
      have e2 : Int.tmod g2 256 = g2 % 256 := Int.tmod_eq_emod_of_nonneg R2.out.1
      have e3 : g2 / 256 % 65536 = g2 / 256 := by have := R2.out; omega
      have e4 : g2 % 256 % 65536 = g2 % 256 := by omega
      go_wp2
      go_roundw
      case rel => exact ⟨3, rfl, ⟨by decide⟩, ⟨((Below.heap_setCell _ ⟨k3, 6, none⟩ _ k1 HN3.out.1).trans (Below.heap_setCell wr ⟨k3, 5, none⟩ _ k1 HN3.out.1)).trans H1.out, ((Below.heap_setCell _ ⟨k3, 6, none⟩ _ k2 HN3.out.2).trans (Below.heap_setCell wr ⟨k3, 5, none⟩ _ k2 HN3.out.2)).trans H2.out, blk_put (blk_put H3.out 5 (.int .u8 (g2 / 256 % 256)) rfl) 6 (.int .u8 (g2 % 256)) rfl, (HB.out.setCell HG3.out _).setCell HG3.out _⟩⟩
      case measure => decide
    · have c1 : wr.cell? ⟨k1, 3, none⟩ = some (.int .u16 g3) := blk_cell H1.out 3
      have x2 : wr.cell? ⟨k3, 7, none⟩ = some (.int .u8 0) := blk_cell H3.out 7
      have x3 : wr.cell? ⟨k3, 8, none⟩ = some (.int .u8 0) := blk_cell H3.out 8
      have z2 : wr.frozen? ⟨k3, 7, none⟩ = false := blk_frozen H3.out 7
      have y3 : ∀ v : Value, (wr.setCell ⟨k3, 7, none⟩ v).cell? ⟨k3, 8, none⟩ = some (.int .u8 0) := fun v => (cell_two wr k3 7 8 v (by decide)).trans x3
      have q3 : ∀ v : Value, (wr.setCell ⟨k3, 7, none⟩ v).frozen? ⟨k3, 8, none⟩ = false := fun v => (froz_two wr k3 7 8 v H3.out)
      have y1 : ∀ (o : Nat) (v : Value), (wr.setCell ⟨k3, o, none⟩ v).cell? ⟨k1, 3, none⟩ = some (.int .u16 g3) := fun o v => (World.cell?_of_block (Below.heap_setCell wr ⟨k3, o, none⟩ v k1 HN3.out.1)).trans c1
      have e1 : Int.tdiv g3 256 = g3 / 256 := Int.tdiv_eq_ediv_of_nonneg R3.out.1
      have e2 : Int.tmod g3 256 = g3 % 256 := Int.tmod_eq_emod_of_nonneg R3.out.1
      have e3 : g3 / 256 % 65536 = g3 / 256 := by have := R3.out; omega
      have e4 : g3 % 256 % 65536 = g3 % 256 := by omega
      go_wp2
      go_roundw
      case rel => exact ⟨4, rfl, ⟨by decide⟩, ⟨((Below.heap_setCell _ ⟨k3, 8, none⟩ _ k1 HN3.out.1).trans (Below.heap_setCell wr ⟨k3, 7, none⟩ _ k1 HN3.out.1)).trans H1.out, ((Below.heap_setCell _ ⟨k3, 8, none⟩ _ k2 HN3.out.2).trans (Below.heap_setCell wr ⟨k3, 7, none⟩ _ k2 HN3.out.2)).trans H2.out, blk_put (blk_put H3.out 7 (.int .u8 (g3 / 256 % 256)) rfl) 8 (.int .u8 (g3 % 256)) rfl, (HB.out.setCell HG3.out _).setCell HG3.out _⟩⟩
      case measure => decide
    · have c1 : wr.cell? ⟨k1, 4, none⟩ = some (.int .u16 g4) := blk_cell H1.out 4
      have x2 : wr.cell? ⟨k3, 9, none⟩ = some (.int .u8 0) := blk_cell H3.out 9
      have x3 : wr.cell? ⟨k3, 10, none⟩ = some (.int .u8 0) := blk_cell H3.out 10
      have z2 : wr.frozen? ⟨k3, 9, none⟩ = false := blk_frozen H3.out 9
      have y3 : ∀ v : Value, (wr.setCell ⟨k3, 9, none⟩ v).cell? ⟨k3, 10, none⟩ = some (.int .u8 0) := fun v => (cell_two wr k3 9 10 v (by decide)).trans x3
      have q3 : ∀ v : Value, (wr.setCell ⟨k3, 9, none⟩ v).frozen? ⟨k3, 10, none⟩ = false := fun v => (froz_two wr k3 9 10 v H3.out)
      have y1 : ∀ (o : Nat) (v : Value), (wr.setCell ⟨k3, o, none⟩ v).cell? ⟨k1, 4, none⟩ = some (.int .u16 g4) := fun o v => (World.cell?_of_block (Below.heap_setCell wr ⟨k3, o, none⟩ v k1 HN3.out.1)).trans c1
      have e1 : Int.tdiv g4 256 = g4 / 256 := Int.tdiv_eq_ediv_of_nonneg R4.out.1
      have e2 : Int.tmod g4 256 = g4 % 256 := Int.tmod_eq_emod_of_nonneg R4.out.1
      have e3 : g4 / 256 % 65536 = g4 / 256 := by have := R4.out; omega
      have e4 : g4 % 256 % 65536 = g4 % 256 := by omega
      go_wp2
      go_roundw
      case rel => exact ⟨5, rfl, ⟨by decide⟩, ⟨((Below.heap_setCell _ ⟨k3, 10, none⟩ _ k1 HN3.out.1).trans (Below.heap_setCell wr ⟨k3, 9, none⟩ _ k1 HN3.out.1)).trans H1.out, ((Below.heap_setCell _ ⟨k3, 10, none⟩ _ k2 HN3.out.2).trans (Below.heap_setCell wr ⟨k3, 9, none⟩ _ k2 HN3.out.2)).trans H2.out, blk_put (blk_put H3.out 9 (.int .u8 (g4 / 256 % 256)) rfl) 10 (.int .u8 (g4 % 256)) rfl, (HB.out.setCell HG3.out _).setCell HG3.out _⟩⟩
      case measure => decide
    · have c1 : wr.cell? ⟨k1, 5, none⟩ = some (.int .u16 g5) := blk_cell H1.out 5
      have x2 : wr.cell? ⟨k3, 11, none⟩ = some (.int .u8 0) := blk_cell H3.out 11
      have x3 : wr.cell? ⟨k3, 12, none⟩ = some (.int .u8 0) := blk_cell H3.out 12
      have z2 : wr.frozen? ⟨k3, 11, none⟩ = false := blk_frozen H3.out 11
      have y3 : ∀ v : Value, (wr.setCell ⟨k3, 11, none⟩ v).cell? ⟨k3, 12, none⟩ = some (.int .u8 0) := fun v => (cell_two wr k3 11 12 v (by decide)).trans x3
      have q3 : ∀ v : Value, (wr.setCell ⟨k3, 11, none⟩ v).frozen? ⟨k3, 12, none⟩ = false := fun v => (froz_two wr k3 11 12 v H3.out)
      have y1 : ∀ (o : Nat) (v : Value), (wr.setCell ⟨k3, o, none⟩ v).cell? ⟨k1, 5, none⟩ = some (.int .u16 g5) := fun o v => (World.cell?_of_block (Below.heap_setCell wr ⟨k3, o, none⟩ v k1 HN3.out.1)).trans c1
      have e1 : Int.tdiv g5 256 = g5 / 256 := Int.tdiv_eq_ediv_of_nonneg R5.out.1
      have e2 : Int.tmod g5 256 = g5 % 256 := Int.tmod_eq_emod_of_nonneg R5.out.1
      have e3 : g5 / 256 % 65536 = g5 / 256 := by have := R5.out; omega
      have e4 : g5 % 256 % 65536 = g5 % 256 := by omega
      go_wp2
      go_roundw
      case rel => exact ⟨6, rfl, ⟨by decide⟩, ⟨((Below.heap_setCell _ ⟨k3, 12, none⟩ _ k1 HN3.out.1).trans (Below.heap_setCell wr ⟨k3, 11, none⟩ _ k1 HN3.out.1)).trans H1.out, ((Below.heap_setCell _ ⟨k3, 12, none⟩ _ k2 HN3.out.2).trans (Below.heap_setCell wr ⟨k3, 11, none⟩ _ k2 HN3.out.2)).trans H2.out, blk_put (blk_put H3.out 11 (.int .u8 (g5 / 256 % 256)) rfl) 12 (.int .u8 (g5 % 256)) rfl, (HB.out.setCell HG3.out _).setCell HG3.out _⟩⟩
      case measure => decide
    · have c1 : wr.cell? ⟨k1, 6, none⟩ = some (.int .u16 g6) := blk_cell H1.out 6
      have x2 : wr.cell? ⟨k3, 13, none⟩ = some (.int .u8 0) := blk_cell H3.out 13
      have x3 : wr.cell? ⟨k3, 14, none⟩ = some (.int .u8 0) := blk_cell H3.out 14
      have z2 : wr.frozen? ⟨k3, 13, none⟩ = false := blk_frozen H3.out 13
      have y3 : ∀ v : Value, (wr.setCell ⟨k3, 13, none⟩ v).cell? ⟨k3, 14, none⟩ = some (.int .u8 0) := fun v => (cell_two wr k3 13 14 v (by decide)).trans x3
      have q3 : ∀ v : Value, (wr.setCell ⟨k3, 13, none⟩ v).frozen? ⟨k3, 14, none⟩ = false := fun v => (froz_two wr k3 13 14 v H3.out)
      have y1 : ∀ (o : Nat) (v : Value), (wr.setCell ⟨k3, o, none⟩ v).cell? ⟨k1, 6, none⟩ = some (.int .u16 g6) := fun o v => (World.cell?_of_block (Below.heap_setCell wr ⟨k3, o, none⟩ v k1 HN3.out.1)).trans c1
      have e1 : Int.tdiv g6 256 = g6 / 256 := Int.tdiv_eq_ediv_of_nonneg R6.out.1
      have e2 : Int.tmod g6 256 = g6 % 256 := Int.tmod_eq_emod_of_nonneg R6.out.1
      have e3 : g6 / 256 % 65536 = g6 / 256 := by have := R6.out; omega
      have e4 : g6 % 256 % 65536 = g6 % 256 := by omega
      go_wp2
      go_roundw
      case rel => exact ⟨7, rfl, ⟨by decide⟩, ⟨((Below.heap_setCell _ ⟨k3, 14, none⟩ _ k1 HN3.out.1).trans (Below.heap_setCell wr ⟨k3, 13, none⟩ _ k1 HN3.out.1)).trans H1.out, ((Below.heap_setCell _ ⟨k3, 14, none⟩ _ k2 HN3.out.2).trans (Below.heap_setCell wr ⟨k3, 13, none⟩ _ k2 HN3.out.2)).trans H2.out, blk_put (blk_put H3.out 13 (.int .u8 (g6 / 256 % 256)) rfl) 14 (.int .u8 (g6 % 256)) rfl, (HB.out.setCell HG3.out _).setCell HG3.out _⟩⟩
      case measure => decide
    · have c1 : wr.cell? ⟨k1, 7, none⟩ = some (.int .u16 g7) := blk_cell H1.out 7
      have x2 : wr.cell? ⟨k3, 15, none⟩ = some (.int .u8 0) := blk_cell H3.out 15
      have x3 : wr.cell? ⟨k3, 16, none⟩ = some (.int .u8 0) := blk_cell H3.out 16
      have z2 : wr.frozen? ⟨k3, 15, none⟩ = false := blk_frozen H3.out 15
      have y3 : ∀ v : Value, (wr.setCell ⟨k3, 15, none⟩ v).cell? ⟨k3, 16, none⟩ = some (.int .u8 0) := fun v => (cell_two wr k3 15 16 v (by decide)).trans x3
      have q3 : ∀ v : Value, (wr.setCell ⟨k3, 15, none⟩ v).frozen? ⟨k3, 16, none⟩ = false := fun v => (froz_two wr k3 15 16 v H3.out)
      have y1 : ∀ (o : Nat) (v : Value), (wr.setCell ⟨k3, o, none⟩ v).cell? ⟨k1, 7, none⟩ = some (.int .u16 g7) := fun o v => (World.cell?_of_block (Below.heap_setCell wr ⟨k3, o, none⟩ v k1 HN3.out.1)).trans c1
      have e1 : Int.tdiv g7 256 = g7 / 256 := Int.tdiv_eq_ediv_of_nonneg R7.out.1
      have e2 : Int.tmod g7 256 = g7 % 256 := Int.tmod_eq_emod_of_nonneg R7.out.1
      have e3 : g7 / 256 % 65536 = g7 / 256 := by have := R7.out; omega
      have e4 : g7 % 256 % 65536 = g7 % 256 := by omega
      go_wp2
      go_roundw
      case rel => exact ⟨8, rfl, ⟨by decide⟩, ⟨((Below.heap_setCell _ ⟨k3, 16, none⟩ _ k1 HN3.out.1).trans (Below.heap_setCell wr ⟨k3, 15, none⟩ _ k1 HN3.out.1)).trans H1.out, ((Below.heap_setCell _ ⟨k3, 16, none⟩ _ k2 HN3.out.2).trans (Below.heap_setCell wr ⟨k3, 15, none⟩ _ k2 HN3.out.2)).trans H2.out, blk_put (blk_put H3.out 15 (.int .u8 (g7 / 256 % 256)) rfl) 16 (.int .u8 (g7 % 256)) rfl, (HB.out.setCell HG3.out _).setCell HG3.out _⟩⟩
      case measure => decide
    · replace H3 := Aside0.mk (show wr.heap[k3]? = some (.cells (eA ⟨6, [g0 / 256 % 256, g0 % 256, g1 / 256 % 256, g1 % 256, g2 / 256 % 256, g2 % 256, g3 / 256 % 256, g3 % 256, g4 / 256 % 256, g4 % 256, g5 / 256 % 256, g5 % 256, g6 / 256 % 256, g6 % 256, g7 / 256 % 256, g7 % 256]⟩) 30 (0, 0)) from H3.out)
      go_wp2_with (first
        | ((with_reducible refine gate_dst (N := 29) rfl ?_); refine wpList_load_row rfl 30 (.tmp 3) rfl k3 rfl 30 (eA ⟨6, [g0 / 256 % 256, g0 % 256, g1 / 256 % 256, g1 % 256, g2 / 256 % 256, g2 % 256, g3 / 256 % 256, g3 % 256, g4 / 256 % 256, g4 % 256, g5 / 256 % 256, g5 % 256, g6 / 256 % 256, g6 % 256, g7 / 256 % 256, g7 % 256]⟩) (0, 0) _ H3.out Tryz.underlying30 rfl (infoE HO.out) ?_)
        | ((with_reducible refine gate_store (t := 30) (p := 2) rfl ?_); refine wpList_store_row rfl 30 (.tmp 2) (.tmp 29) rfl k2 (eA ⟨6, [g0 / 256 % 256, g0 % 256, g1 / 256 % 256, g1 % 256, g2 / 256 % 256, g2 % 256, g3 / 256 % 256, g3 % 256, g4 / 256 % 256, g4 % 256, g5 / 256 % 256, g5 % 256, g6 / 256 % 256, g6 % 256, g7 / 256 % 256, g7 % 256]⟩) rfl rfl 30 (eA noA) H2.out (infoE HO.out) ((eA_size ok_noA).trans (eA_size HO.out).symm) (eA_one _) ?_; replace H2 := Aside0.mk (row_new (cells := eA ⟨6, [g0 / 256 % 256, g0 % 256, g1 / 256 % 256, g1 % 256, g2 / 256 % 256, g2 % 256, g3 / 256 % 256, g3 % 256, g4 / 256 % 256, g4 % 256, g5 / 256 % 256, g5 % 256, g6 / 256 % 256, g6 % 256, g7 / 256 % 256, g7 % 256]⟩) H2.out); replace HB := Aside0.mk (below_row HB.out HG2.out (eA ⟨6, [g0 / 256 % 256, g0 % 256, g1 / 256 % 256, g1 % 256, g2 / 256 % 256, g2 % 256, g3 / 256 % 256, g3 % 256, g4 / 256 % 256, g4 % 256, g5 / 256 % 256, g5 % 256, g6 / 256 % 256, g6 % 256, g7 / 256 % 256, g7 % 256]⟩))))
      refine bodyPost_ret (results_cell_row rfl _ _ k2 30 (eA ⟨6, [g0 / 256 % 256, g0 % 256, g1 / 256 % 256, g1 % 256, g2 / 256 % 256, g2 % 256, g3 / 256 % 256, g3 % 256, g4 / 256 % 256, g4 % 256, g5 / 256 % 256, g5 % 256, g6 / 256 % 256, g6 % 256, g7 / 256 % 256, g7 % 256]⟩) (0, 0) _ rfl H2.out Tryz.underlying30 rfl (infoE HO.out)) rfl ?_
      exact ⟨rfl, HB.out⟩

end Go.Proofs.YthdognlkacjkhaaGreatDoor.P
end
