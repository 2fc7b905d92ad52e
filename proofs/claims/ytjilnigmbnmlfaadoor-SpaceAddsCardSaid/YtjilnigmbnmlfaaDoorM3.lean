/-
  Texts of the proof, put together.
-/
import Derived.Test.YtjilnigmbnmlfaaDoorM2
import Derived.Great.BuildSlice
import Derived.Deep.RegionHeld2
section
namespace Go.Proofs.YtjilnigmbnmlfaaDoor.P
open Go.RowKit Go.Proofs.YtjilnigmbnmlfaaDoorW.PrintWords Go.Proofs.YtjilnigmbnmlfaaDoorW.PrintLast Go.Proofs.YtjilnigmbnmlfaaDoorW.PrintMore
set_option linter.unusedVariables false
set_option linter.unusedSimpArgs false
structure Pf where
  a : Ad
  n : Int
def eP (p : Pf) : Array Value := (lA p.a ++ [Value.int .i64 p.n]).toArray
def noP : Pf := ⟨noA, 0⟩
theorem lA_len {a : Ad} (h : a.ok) : (lA a).length = 17 := by unfold lA; simp [h.1]
theorem eP_size {p : Pf} (h : p.a.ok) : (eP p).size = 18 := by unfold eP; simp [lA_len h]
theorem eP_one (p : Pf) : (eP p).all (·.oneCell') = true := by
  unfold eP
  rw [Array.all_eq_true_iff_forall_mem]
  intro v hv
  rcases List.mem_append.1 (List.mem_toArray.1 hv) with h | h
  · exact (Array.all_eq_true_iff_forall_mem.1 (eA_one p.a)) v (by unfold eA; exact List.mem_toArray.2 h)
  · rw [List.mem_singleton.1 h]; rfl
theorem eP_fam (p : Pf) : (eP p)[0]? = some (.int .i64 p.a.fam) := rfl
theorem eP_n {p : Pf} (h : p.a.ok) : (eP p)[17]? = some (.int .i64 p.n) := by
  unfold eP
  rw [List.getElem?_toArray, List.getElem?_append_right (by rw [lA_len h]; exact Nat.le_refl _), lA_len h]
  rfl
theorem infoP : (Tryd.prog.info? 35).map (·.size) = some 18 := by kernel_rfl
theorem infoEP {p : Pf} (h : p.a.ok) : (Tryd.prog.info? 35).map (·.size) = some (eP p).size := by rw [eP_size h]; exact infoP
theorem infoL {a : Ad} (h : a.ok) : (Tryd.prog.info? 28).map (·.size) = some (lA a).length := by rw [lA_len h]; exact infoA
theorem part_addr {w : World} {g : Nat} {p : Pf} {t : TypeId} (hg : w.heap[g]? = some (.cells (eP p) t (0, 0))) : w.rangeAt g 0 (lA p.a) := fun j v hv => by
  rw [Nat.zero_add, cell_of_row w g j (eP p) t (0, 0) hg]
  unfold eP
  rw [List.getElem?_toArray, List.getElem?_append_left (List.getElem?_eq_some_iff.1 hv).1]
  exact hv
/-- A prefix's address, out of the prefix's block. -/
theorem load_addr {ops : Array Oper} {rest : List Oper} {op : Oper} {a : Act} {w : World} {Q : Exit → Act → World → Prop} {g : Nat} {p : Pf} (hgd : op.guard = none) (x : Operand) (ho : op.op = .load 28 x)
    (hx : a.eval x = .pointer (some ⟨g, 0, none⟩)) (hok : p.a.ok) (hg : w.heap[g]? = some (.cells (eP p) 35 (0, 0))) (h : wpList Tryd.prog ops Q rest (a.put op.dst (.agg (eA p.a))) w) : wpList Tryd.prog ops Q (op :: rest) a w :=
  wpList_load_mid hgd 28 x ho g 0 hx (lA p.a) _ (part_addr hg) Tryd.underlying28 rfl (infoL hok) h
theorem built_pf16 (f n b0 b1 b2 b3 b4 b5 b6 b7 b8 b9 b10 b11 b12 b13 b14 b15 : Int) : Tryd.prog.built 35 [(0, .agg (eA ⟨f, [b0, b1, b2, b3, b4, b5, b6, b7, b8, b9, b10, b11, b12, b13, b14, b15]⟩)), (1, .int .i64 n)] = some (eP ⟨⟨f, [b0, b1, b2, b3, b4, b5, b6, b7, b8, b9, b10, b11, b12, b13, b14, b15]⟩, n⟩) := by kernel_rfl
theorem built_pf {a : Ad} (h : a.ok) (n : Int) : Tryd.prog.built 35 [(0, .agg (eA a)), (1, .int .i64 n)] = some (eP ⟨a, n⟩) := by
  obtain ⟨f, bs⟩ := a
  match bs, h.1 with
  | [b0, b1, b2, b3, b4, b5, b6, b7, b8, b9, b10, b11, b12, b13, b14, b15], _ => exact built_pf16 f n b0 b1 b2 b3 b4 b5 b6 b7 b8 b9 b10 b11 b12 b13 b14 b15
/-! ### regions that draw their order, with whole loads beside calls -/
section
variable {P : Program} {ops : Array Oper} {Q : Exit → Act → World → Prop} {md : Region.Mode} {S : World → Prop}
theorem yields_row {op : Oper} {a : Act} (hw : Region.wanted op (yielded ops a.tmps) = true) (ty : TypeId) (x : Operand) (ho : op.op = .load ty x) (g : Nat) (hx : a.eval x = .pointer (some ⟨g, 0, none⟩)) (t : TypeId) (cs : Array Value) (fr : Nat × Nat) (d : TypeDesc)
    (hS : ∀ w, S w → w.heap[g]? = some (.cells cs t fr)) (hu : P.underlying ty = some d) (hd : (match d with | .struct _ | .array _ _ => true | _ => false) = true) (hi : (P.info? ty).map (·.size) = some cs.size) : YieldsIf P ops S op (.agg cs) a :=
  .inl ⟨hw, fun w hw' => by
    unfold execOp
    simp only [ho, hx, Instr.loadAt, Instr.sureAddr, Sem.run_bind, Sem.run_pure, Result.andThen_ok, run_loadVar_row w g t ty cs fr d (hS w hw') hu hd hi]⟩
theorem held_step {i : Nat} {o : Oper} {fuel : Nat} {listed : Array Bool} {a : Act} {w : World} (hr : Region.ready md ops listed = [i]) (ho : ops[i]? = some o) (hw : Region.wanted o (yielded ops a.tmps) = true)
    (h : ∀ K' : Act → World → Prop, Shut (∀ a' w', S w' → wpAnyH P md ops Q S fuel (listed.setIfInBounds i true) a' w' → K' a' w') → Oper.wp P o a w K' Q) : wpAnyH P md ops Q S (fuel + 1) listed a w :=
  wpAnyH_ready hr (by simp) (AllReadyH.cons ho (fun K' hK => by
    rw [if_pos hw]
    exact h K' (fun a' w' hS hW => hK.out a' w' hS (fun _ => hW))) AllReadyH.nil)
end
/-! ### a number below another -/
def aroundN (n m : Int) : Int := Int.tmod (if n < 0 then wrap64 (-(wrap64 (n + 1))) else n) m
set_option maxHeartbeats 4000000 in
set_option maxRecDepth 100000 in
theorem ref01_Around (n m : Int) (hm : m ≠ 0) (w : World) : Calls Tryd.prog 14 #[.int .i64 n, .int .i64 m] w fun e w' => e = .returned (.int .i64 (aroundN n m)) ∧ Below w.heap.size w w' := by
  have HB := Aside0.mk (Below.refl w.heap.size w)
  by_cases h0 : n < 0
  · have c1b0 : decide (n < 0) = true := decide_eq_true h0
    have HR := Aside0.mk (show aroundN n m = Int.tmod (wrap64 (-(wrap64 (n + 1)))) m by unfold aroundN; rw [if_pos h0])
    clear h0
    go_enter Tryd.func14, Tryd.ntmps14
    go_wp2
    go_ret
    exact ⟨by rw [HR.out]; first | done | rfl, HB.out⟩
  · have c1b0 : decide (n < 0) = false := decide_eq_false h0
    have HR := Aside0.mk (show aroundN n m = Int.tmod n m by unfold aroundN; rw [if_neg h0])
    clear h0
    go_enter Tryd.func14, Tryd.ntmps14
    go_wp2
    go_ret
    exact ⟨by rw [HR.out]; first | done | rfl, HB.out⟩
/-! ### an address cut down to so many bits -/
def maskN (a : Ad) (n : Int) : Int := if bitsOf a.fam < (if n < 0 then 0 else n) then bitsOf a.fam else (if n < 0 then 0 else n)
def maskP (a : Ad) (n : Int) : Pf := ⟨withA a (maskN a n) 0, maskN a n⟩
theorem ok_maskP (a : Ad) (n : Int) : (maskP a n).a.ok := ok_withA _ _ _
set_option maxHeartbeats 4000000 in
set_option maxRecDepth 100000 in
theorem ref05_Mask (a : Ad) (ha : a.ok) (n : Int) (w : World) : Calls Tryd.prog 32 #[.agg (eA a), .int .i64 n] w fun e w' => e = .returned (.agg (eP (maskP a n))) ∧ Below w.heap.size w w' := by
  have HB := Aside0.mk (Below.refl w.heap.size w)
  have HA := Aside0.mk ha
  have HM := Aside0.mk (show (if bitsOf a.fam < (if n < 0 then 0 else n) then bitsOf a.fam else (if n < 0 then 0 else n)) = maskN a n from rfl)
  clear ha
  go_enter Tryd.func32, Tryd.ntmps32
  go_wp2_with (first
    | ((with_reducible refine gate_dst (N := 2) rfl ?_); refine box_event ?hg (N := 2) ?hd (cs := eA a) (t := 28) ?hr ?_; (case hd => rfl); (case hg => rfl); (case hr => first | (go_simp; done) | (go_simp; rfl)); intro g2 hg w1 hbox hb; have HX := Aside0.mk hbox; replace HB := Aside0.mk (below_step (bel_later HB.out) hb); clear hb hg hbox)
    | ((with_reducible refine gate_dst (N := 4) rfl ?_); refine box_event ?hg (N := 4) ?hd (cs := eP noP) (t := 35) ?hr ?_; (case hd => rfl); (case hg => rfl); (case hr => first | (go_simp; done) | (go_simp; rfl)); intro g4 hg w2 hbox hb; have HY := Aside0.mk hbox; have HG4 := Aside0.mk (show w.heap.size ≤ g4 by rw [hg]; exact below_size (bel_later HB.out)); replace HX := Aside0.mk (blk_below (blk_later HX.out) hb); replace HB := Aside0.mk (below_step (bel_later HB.out) hb); clear hb hg hbox)
    | ((with_reducible refine gate_dst (N := 8) rfl ?_); refine wpList_load_row rfl 28 (.tmp 2) rfl g2 rfl 28 (eA a) (0, 0) _ HX.out Tryd.underlying28 rfl (infoE HA.out) ?_)
    | (go_at_call 33; refine (ref04_Bits a w2).mono ?_; rintro e w3 ⟨rfl, hb⟩; have HX3 := Aside0.mk (blk_below HX.out hb); have HY3 := Aside0.mk (blk_below HY.out hb); have HB3 := Aside0.mk (below_step HB.out hb); clear hb)
    | ((with_reducible refine gate_dst (N := 11) rfl ?_); refine wpList_load_row rfl 28 (.tmp 2) rfl g2 rfl 28 (eA a) (0, 0) _ HX3.out Tryd.underlying28 rfl (infoE HA.out) ?_)
    | (go_at_call 48; rw [HM.out]; refine (ref05_With a HA.out (maskN a n) 0 w3).mono ?_; rintro e w4 ⟨rfl, hb⟩; have HY4 := Aside0.mk (blk_below HY3.out hb); have HB4 := Aside0.mk (below_step HB3.out hb); clear hb)
    | ((with_reducible refine gate_dst (N := 15) rfl ?_); refine wpList_buildTo rfl 35 _ rfl _ rfl (eP (maskP a n)) ?hbb ?_; (case hbb => rw [List.map_toArray]; exact built_pf (ok_withA a (maskN a n) 0) (maskN a n)))
    | ((with_reducible refine gate_store (t := 35) (p := 4) rfl ?_); refine wpList_store_row rfl 35 (.tmp 4) (.tmp 15) rfl g4 (eP (maskP a n)) rfl rfl 35 (eP noP) HY4.out (infoEP (ok_maskP a n)) ((eP_size (p := noP) ok_noA).trans (eP_size (ok_maskP a n)).symm) (eP_one _) ?_; have HY5 := Aside0.mk (row_new (cells := eP (maskP a n)) HY4.out); have HB5 := Aside0.mk (below_row HB4.out HG4.out (eP (maskP a n)))))
  all_goals
    refine bodyPost_ret (results_cell_row rfl _ _ g4 35 (eP (maskP a n)) (0, 0) _ rfl HY5.out Tryd.underlying35 rfl (infoEP (ok_maskP a n))) rfl ?_
    exact ⟨rfl, HB5.out⟩
/-- A prefix that may be, made of any. -/
def goodP (p : Pf) : Pf := maskP (goodA p.a) (aroundN p.n (wrap64 (bitsOf (goodA p.a).fam + 1)))
theorem ok_goodP (p : Pf) : (goodP p).a.ok := ok_maskP _ _
theorem bits_one (f : Int) : wrap64 (bitsOf f + 1) ≠ 0 := by
  have := bitsOf_le f
  unfold wrap64
  omega
set_option maxHeartbeats 4000000 in
set_option maxRecDepth 100000 in
theorem ref05_Good (p : Pf) (hp : p.a.ok) (w : World) : Calls Tryd.prog 12 #[.agg (eP p)] w fun e w' => e = .returned (.agg (eP (goodP p))) ∧ Below w.heap.size w w' := by
  have HB := Aside0.mk (Below.refl w.heap.size w)
  have HA := Aside0.mk hp
  have HO := Aside0.mk (ok_goodA hp)
  have HR := Aside0.mk (show goodP p = maskP (goodA p.a) (aroundN p.n (wrap64 (bitsOf (goodA p.a).fam + 1))) from rfl)
  clear hp
  go_enter Tryd.func12, Tryd.ntmps12
  go_wp2_with (first
    | ((with_reducible refine gate_dst (N := 1) rfl ?_); refine box_event ?hg (N := 1) ?hd (cs := eP p) (t := 35) ?hr ?_; (case hd => rfl); (case hg => rfl); (case hr => first | (go_simp; done) | (go_simp; rfl)); intro g1 hg w1 hbox hb; have HX := Aside0.mk hbox; replace HB := Aside0.mk (below_step (bel_later HB.out) hb); clear hb hg hbox)
    | ((with_reducible refine gate_dst (N := 2) rfl ?_); refine box_event ?hg (N := 2) ?hd (cs := eP noP) (t := 35) ?hr ?_; (case hd => rfl); (case hg => rfl); (case hr => first | (go_simp; done) | (go_simp; rfl)); intro g2 hg w2 hbox hb; have HY := Aside0.mk hbox; have HG2 := Aside0.mk (show w.heap.size ≤ g2 by rw [hg]; exact below_size (bel_later HB.out)); have HN12 := Aside0.mk (show g1 ≠ g2 by rw [hg]; exact Nat.ne_of_lt (blk_lt (blk_later HX.out))); replace HX := Aside0.mk (blk_below (blk_later HX.out) hb); replace HB := Aside0.mk (below_step (bel_later HB.out) hb); clear hb hg hbox)
    | ((with_reducible refine gate_dst (N := 5) rfl ?_); refine load_addr rfl (.tmp 4) rfl rfl HA.out HX.out ?_)
    | (go_at_call 13; refine (ref04_Good p.a HA.out w2).mono ?_; rintro e w3 ⟨rfl, hb⟩; replace HX := Aside0.mk (blk_below HX.out hb); replace HY := Aside0.mk (blk_below HY.out hb); replace HB := Aside0.mk (below_step HB.out hb); clear hb)
    | ((with_reducible refine gate_dst (N := 3) rfl ?_); refine box_event ?hg (N := 3) ?hd (cs := eA noA) (t := 28) ?hr ?_; (case hd => rfl); (case hg => rfl); (case hr => first | (go_simp; done) | (go_simp; rfl)); intro g3 hg w4 hbox hb; have HZ := Aside0.mk hbox; have HN1 := Aside0.mk (show g1 ≠ g3 by rw [hg]; exact Nat.ne_of_lt (blk_lt (blk_later HX.out))); have HN2 := Aside0.mk (show g2 ≠ g3 by rw [hg]; exact Nat.ne_of_lt (blk_lt (blk_later HY.out))); have HG3 := Aside0.mk (show w.heap.size ≤ g3 by rw [hg]; exact below_size (bel_later HB.out)); replace HX := Aside0.mk (blk_below (blk_later HX.out) hb); replace HY := Aside0.mk (blk_below (blk_later HY.out) hb); replace HB := Aside0.mk (below_step (bel_later HB.out) hb); clear hb hg hbox)
    | ((with_reducible refine gate_store (t := 28) (p := 3) rfl ?_); refine wpList_store_row rfl 28 (.tmp 3) (.tmp 6) rfl g3 (eA (goodA p.a)) rfl rfl 28 (eA noA) HZ.out (infoE HO.out) ((eA_size ok_noA).trans (eA_size HO.out).symm) (eA_one _) ?_; replace HX := Aside0.mk ((row_far (cells := eA (goodA p.a)) HN1.out).trans HX.out); replace HY := Aside0.mk ((row_far (cells := eA (goodA p.a)) HN2.out).trans HY.out); replace HZ := Aside0.mk (row_new (cells := eA (goodA p.a)) HZ.out); replace HB := Aside0.mk (below_row HB.out HG3.out (eA (goodA p.a))); have hn := (blk_cell HX.out 17).trans (eP_n HA.out); generalize w4.setRow g3 (eA (goodA p.a)) = w5 at HX HY HZ HB hn ⊢))
  have HHN := Aside0.mk hn
  clear hn
  obtain ⟨S, hS⟩ : ∃ S : World → Prop, S = fun w' => w'.heap[g1]? = some (.cells (eP p) 35 (0, 0)) ∧ (∃ cs, w'.heap[g2]? = some (.cells cs 35 (0, 0)) ∧ cs.size = 18) ∧ w'.heap[g3]? = some (.cells (eA (goodA p.a)) 28 (0, 0)) ∧ Below w.heap.size w w' := ⟨_, rfl⟩
  have s0 : S w5.drew := by rw [hS]; exact ⟨blk_later HX.out, ⟨_, blk_later HY.out, eP_size (p := noP) ok_noA⟩, blk_later HZ.out, bel_later HB.out⟩
  have HSt := Aside0.mk (show ∀ a b : World, S a → Below a.heap.size a b → S b by
    intro a b h hb
    rw [hS] at h ⊢
    obtain ⟨h1, ⟨cs, h2, h3⟩, h4, h5⟩ := h
    exact ⟨blk_below h1 hb, ⟨cs, blk_below h2 hb, h3⟩, blk_below h4 hb, below_step h5 hb⟩)
  have hl : ∀ w', S w' → w'.heap[g3]? = some (.cells (eA (goodA p.a)) 28 (0, 0)) := by
    intro w' h
    rw [hS] at h
    exact h.2.2.1
  have hf : ∀ w', S w' → w'.cell? ⟨g1, 17, none⟩ = some (.int .i64 p.n) := by
    intro w' h
    rw [hS] at h
    exact (blk_cell h.1 17).trans (eP_n HA.out)
  have HSo := Aside0.mk (show ∀ w', S w' → ∃ cs, w'.heap[g2]? = some (.cells cs 35 (0, 0)) ∧ cs.size = 18 by
    intro w' h
    rw [hS] at h
    exact h.2.1)
  have HSs := Aside0.mk (show ∀ a : World, S a → S (a.setRow g2 (eP (goodP p))) ∧ (a.setRow g2 (eP (goodP p))).heap[g2]? = some (.cells (eP (goodP p)) 35 (0, 0)) ∧ Below w.heap.size w (a.setRow g2 (eP (goodP p))) by
    intro a h
    rw [hS] at h ⊢
    obtain ⟨h1, ⟨cs, h2, h3⟩, h4, h5⟩ := h
    exact ⟨⟨(row_far HN12.out).trans h1, ⟨_, row_new h2, eP_size (ok_goodP p)⟩, (row_far HN2.out.symm).trans h4, below_row h5 HG2.out _⟩, row_new h2, below_row h5 HG2.out _⟩)
  clear hS HX HY HZ HB
  have HF := Aside0.mk hf
  clear hf
  refine wp_region_held_drew (S := S) (by kernel_rfl) s0 (fun _ => ?_)
  refine wpAnyH_take (i := 0) rfl (by kernel_rfl) (by kernel_rfl) (by kernel_rfl) (fun _ _ _ h => h) (yields_row (by rfl) 28 (.tmp 3) rfl g3 rfl 28 (eA (goodA p.a)) (0, 0) _ hl Tryd.underlying28 rfl (infoE HO.out)) s0 ?_
  simp only [Act.put, List.setIfInBounds_toArray, List.set_cons_zero, List.set_cons_succ]
  refine wpAnyH_take (i := 3) rfl (by kernel_rfl) (by kernel_rfl) (by kernel_rfl) (fun _ _ _ h => h) (yields_row (by rfl) 28 (.tmp 3) rfl g3 rfl 28 (eA (goodA p.a)) (0, 0) _ hl Tryd.underlying28 rfl (infoE HO.out)) s0 ?_
  simp only [Act.put, List.setIfInBounds_toArray, List.set_cons_zero, List.set_cons_succ]
  refine wpAnyH_take (i := 1) (v := .pointer (some ⟨g1, 17, none⟩)) rfl (by kernel_rfl) (by kernel_rfl) (by kernel_rfl) (fun _ _ _ h => h) (Or.inl ⟨by rfl, fun w' _ => by go_simp⟩) s0 ?_
  simp only [Act.put, List.setIfInBounds_toArray, List.set_cons_zero, List.set_cons_succ]
  refine wpAnyH_take (i := 2) (v := .int .i64 p.n) rfl (by kernel_rfl) (by kernel_rfl) (by kernel_rfl) (fun _ _ _ h => h) (Or.inl ⟨by rfl, fun w' h => by have hf := HF.out w' h; go_simp⟩) s0 ?_
  simp only [Act.put, List.setIfInBounds_toArray, List.set_cons_zero, List.set_cons_succ]
  generalize w5.drew = w6 at s0 ⊢
  refine held_step (i := 4) (by kernel_rfl) rfl (by rfl) (fun K hK => ?_)
  go_wp2_with (go_at_call 33; refine (ref04_Bits (goodA p.a) w6).mono ?_; rintro e w7 ⟨rfl, hb⟩; have s1 := HSt.out _ _ s0 hb; clear hb)
  refine hK.out _ _ s1 ?_
  clear hK K
  refine held_step (i := 5) (by kernel_rfl) rfl (by rfl) (fun K hK => ?_)
  go_wp2
  refine hK.out _ _ s1 ?_
  clear hK K
  (try simp only [Act.put, List.setIfInBounds_toArray, List.set_cons_zero, List.set_cons_succ])
  refine held_step (i := 6) (by kernel_rfl) rfl (by rfl) (fun K hK => ?_)
  go_wp2_with (go_at_call 14; refine (ref01_Around p.n _ (bits_one (goodA p.a).fam) w7).mono ?_; rintro e w8 ⟨rfl, hb⟩; have s2 := HSt.out _ _ s1 hb; clear hb)
  refine hK.out _ _ s2 ?_
  clear hK K
  refine held_step (i := 7) (by kernel_rfl) rfl (by rfl) (fun K hK => ?_)
  go_wp2_with (go_at_call 32; refine (ref05_Mask (goodA p.a) HO.out _ w8).mono ?_; rintro e w9 ⟨rfl, hb⟩; rw [← HR.out]; have s3 := HSt.out _ _ s2 hb; clear hb)
  refine hK.out _ _ s3 ?_
  clear hK K
  obtain ⟨cs, hc1, hc2⟩ := HSo.out _ s3
  obtain ⟨s4, hy, hb⟩ := HSs.out _ s3
  have HY := Aside0.mk hy
  have HB := Aside0.mk hb
  refine held_step (i := 8) (by kernel_rfl) rfl (by rfl) (fun K hK => ?_)
  refine wp_store_row 35 (.tmp 2) (.tmp 14) rfl g2 (eP (goodP p)) rfl rfl 35 cs hc1 (infoEP (ok_goodP p)) (hc2.trans (eP_size (ok_goodP p)).symm) (eP_one _) ?_
  (try simp only [Act.put, List.setIfInBounds_toArray, List.set_cons_zero, List.set_cons_succ])
  refine hK.out _ _ s4 ?_
  clear hK K hc1 hc2 hy hb s4
  refine wpAnyH_done (by kernel_rfl) ?_ _
  go_wp2
  refine bodyPost_ret (results_cell_row rfl _ _ g2 35 (eP (goodP p)) (0, 0) _ rfl HY.out Tryd.underlying35 rfl (infoEP (ok_goodP p))) rfl ?_
  exact ⟨rfl, HB.out⟩
def hasP (p : Pf) (a : Ad) : Prop := p.a.fam = a.fam ∧ ∀ j : Nat, (j : Int) < p.n → bitA p.a j = bitA a j
def hasB (p : Pf) (a : Ad) : Bool := decide (p.a.fam = a.fam) && (List.range p.n.toNat).all fun j => decide (bitA p.a j = bitA a j)
theorem hasB_iff (p : Pf) (a : Ad) : hasB p a = true ↔ hasP p a := by
  unfold hasB hasP
  simp only [Bool.and_eq_true, decide_eq_true_eq, List.all_eq_true, List.mem_range]
  exact ⟨fun ⟨h1, h2⟩ => ⟨h1, fun j hj => h2 j (by omega)⟩, fun ⟨h1, h2⟩ => ⟨h1, fun j hj => h2 j (by omega)⟩⟩
theorem hasB_no {p : Pf} {a : Ad} (h : ¬ hasP p a) : hasB p a = false := by
  cases hb : hasB p a
  · rfl
  · exact absurd ((hasB_iff p a).1 hb) h
set_option maxHeartbeats 4000000 in
set_option maxRecDepth 100000 in
theorem ref05_Has (p : Pf) (hp : p.a.ok) (hn : p.n ≤ 1000000) (a : Ad) (ha : a.ok) (w : World) : Calls Tryd.prog 18 #[.agg (eP p), .agg (eA a)] w fun e w' => e = .returned (.bool (hasB p a)) ∧ Below w.heap.size w w' := by
  have HB := Aside0.mk (Below.refl w.heap.size w)
  have HP := Aside0.mk hp
  have HA := Aside0.mk ha
  have HN := Aside0.mk hn
  clear hp ha hn
  by_cases hf : p.a.fam = a.fam
  · have c1b0 : (p.a.fam == a.fam) = true := by simpa using hf
    have c1b1 : (p.a.fam != a.fam) = false := by simpa using hf
    have HFA := Aside0.mk hf
    clear hf
    go_enter Tryd.func18, Tryd.ntmps18
    go_wp2_with (first
      | ((with_reducible refine gate_dst (N := 2) rfl ?_); refine box_event ?hg (N := 2) ?hd (cs := eP p) (t := 35) ?hr ?_; (case hd => rfl); (case hg => rfl); (case hr => first | (go_simp; done) | (go_simp; rfl)); intro g2 hg w1 hbox hb; have HX := Aside0.mk hbox; replace HB := Aside0.mk (below_step (bel_later HB.out) hb); clear hb hg hbox)
      | ((with_reducible refine gate_dst (N := 3) rfl ?_); refine box_event ?hg (N := 3) ?hd (cs := eA a) (t := 28) ?hr ?_; (case hd => rfl); (case hg => rfl); (case hr => first | (go_simp; done) | (go_simp; rfl)); intro g3 hg w2 hbox hb; have HY := Aside0.mk hbox; replace HX := Aside0.mk (blk_below (blk_later HX.out) hb); replace HB := Aside0.mk (below_step (bel_later HB.out) hb); have h0 := (blk_cell HX.out 0).trans (eP_fam p); have h1 := (blk_cell HY.out 0).trans (eA_fam a); clear hb hg hbox))
    go_loopw [5] (fun v5 wr => ∃ i : Nat, v5 = .int .i64 (i : Int) ∧ Aside0 (i ≤ p.n.toNat) ∧ Aside0 (∀ j : Nat, j < i → bitA p.a j = bitA a j) ∧ Aside0 (wr.heap[g2]? = some (.cells (eP p) 35 (0, 0)) ∧ wr.heap[g3]? = some (.cells (eA a) 28 (0, 0)) ∧ Below w.heap.size w wr)) (fun v5 _ => p.n.toNat - (intOf v5).toNat)
    case atStart => exact ⟨0, rfl, ⟨Nat.zero_le _⟩, ⟨fun j h => absurd h (Nat.not_lt_zero _)⟩, ⟨HX.out, HY.out, HB.out⟩⟩
    case round =>
      obtain ⟨i, rfl, HI, HJ, HE⟩ := hrel
      clear HX HY HB
      have hn := (blk_cell HE.out.1 17).trans (eP_n HP.out)
      by_cases hlt : i < p.n.toNat
      · have c3b0 : decide ((i : Int) < p.n) = true := decide_eq_true (by omega)
        have e4 : wrap64 ((i : Int) + 1) = ((i + 1 : Nat) : Int) := wrap_sm1 i (by have := HN.out; omega)
        have HE4 := Aside0.mk e4
        have HLT := Aside0.mk hlt
        clear hlt
        obtain ⟨S, hS⟩ : ∃ S : World → Prop, S = fun w' => w'.heap[g2]? = some (.cells (eP p) 35 (0, 0)) ∧ w'.heap[g3]? = some (.cells (eA a) 28 (0, 0)) ∧ Below w.heap.size w w' := ⟨_, rfl⟩
        have HSt := Aside0.mk (show ∀ a b : World, S a → Below a.heap.size a b → S b by
          intro a b h hb
          rw [hS] at h ⊢
          exact ⟨blk_below h.1 hb, blk_below h.2.1 hb, below_step h.2.2 hb⟩)
        have HSx := Aside0.mk (show ∀ b : World, S b → b.heap[g2]? = some (.cells (eP p) 35 (0, 0)) ∧ b.heap[g3]? = some (.cells (eA a) 28 (0, 0)) ∧ Below w.heap.size w b by
          intro b h
          rw [hS] at h
          exact h)
        have HS0 := Aside0.mk (show ∀ b : World, Later wr b → S b by
          intro b k
          rw [hS]
          exact ⟨blk_later HE.out.1, blk_later HE.out.2.1, bel_later HE.out.2.2⟩)
        clear hS HE
        by_cases hd : bitA p.a i = bitA a i
        · have c4b0 : (bitA p.a (i : Int) == bitA a (i : Int)) = true := by simpa using hd
          have c4b1 : (bitA p.a (i : Int) != bitA a (i : Int)) = false := by simpa using hd
          have HJ2 := Aside0.mk (show ∀ j : Nat, j < i + 1 → bitA p.a j = bitA a j by
            intro j hj
            by_cases hji : j < i
            · exact HJ.out j hji
            · rw [show j = i by omega]; exact hd)
          clear hd
          go_wp2
          have s0 : S wr.drew := HS0.out _ inferInstance
          refine wp_region_held_drew (S := S) (by kernel_rfl) s0 (fun _ => ?_)
          refine wpAnyH_take (i := 0) (v := .pointer (some ⟨g2, 0, none⟩)) rfl (by kernel_rfl) (by kernel_rfl) (by kernel_rfl) (fun _ _ _ h => h) (Or.inl ⟨by rfl, fun w' _ => by go_simp⟩) s0 ?_
          (try simp only [Act.put, List.setIfInBounds_toArray, List.set_cons_zero, List.set_cons_succ])
          refine wpAnyH_take (i := 1) rfl (by kernel_rfl) (by kernel_rfl) (by kernel_rfl) (fun _ _ _ h => h) (yieldsIf_load_mid (by rfl) 28 (.tmp 18) rfl g2 0 rfl (lA p.a) _ (fun w' h => part_addr (HSx.out w' h).1) Tryd.underlying28 rfl (infoL HP.out)) s0 ?_
          (try simp only [Act.put, List.setIfInBounds_toArray, List.set_cons_zero, List.set_cons_succ])
          refine wpAnyH_take (i := 2) (v := .int .i64 (i : Int)) rfl (by kernel_rfl) (by kernel_rfl) (by kernel_rfl) (fun _ _ _ h => h) (Or.inl ⟨by rfl, fun w' _ => by go_simp⟩) s0 ?_
          (try simp only [Act.put, List.setIfInBounds_toArray, List.set_cons_zero, List.set_cons_succ])
          refine wpAnyH_take (i := 4) rfl (by kernel_rfl) (by kernel_rfl) (by kernel_rfl) (fun _ _ _ h => h) (yields_row (by rfl) 28 (.tmp 3) rfl g3 rfl 28 (eA a) (0, 0) _ (fun w' h => (HSx.out w' h).2.1) Tryd.underlying28 rfl (infoE HA.out)) s0 ?_
          (try simp only [Act.put, List.setIfInBounds_toArray, List.set_cons_zero, List.set_cons_succ])
          refine wpAnyH_take (i := 5) (v := .int .i64 (i : Int)) rfl (by kernel_rfl) (by kernel_rfl) (by kernel_rfl) (fun _ _ _ h => h) (Or.inl ⟨by rfl, fun w' _ => by go_simp⟩) s0 ?_
          (try simp only [Act.put, List.setIfInBounds_toArray, List.set_cons_zero, List.set_cons_succ])
          generalize wr.drew = w6 at s0 ⊢
          refine held_step (i := 3) (by kernel_rfl) rfl (by rfl) (fun K hK => ?_)
          go_wp2_with (go_at_call 39; refine (ref04_Bit p.a HP.out (i : Int) w6).mono ?_; rintro e w7 ⟨rfl, hb⟩; have s1 := HSt.out _ _ s0 hb; clear hb)
          refine hK.out _ _ s1 ?_
          clear hK K
          (try simp only [Act.put, List.setIfInBounds_toArray, List.set_cons_zero, List.set_cons_succ])
          refine held_step (i := 6) (by kernel_rfl) rfl (by rfl) (fun K hK => ?_)
          go_wp2_with (go_at_call 39; refine (ref04_Bit a HA.out (i : Int) w7).mono ?_; rintro e w8 ⟨rfl, hb⟩; have s2 := HSt.out _ _ s1 hb; clear hb)
          refine hK.out _ _ s2 ?_
          clear hK K
          (try simp only [Act.put, List.setIfInBounds_toArray, List.set_cons_zero, List.set_cons_succ])
          refine held_step (i := 7) (by kernel_rfl) rfl (by rfl) (fun K hK => ?_)
          go_wp2
          refine hK.out _ _ s2 ?_
          clear hK K
          (try simp only [Act.put, List.setIfInBounds_toArray, List.set_cons_zero, List.set_cons_succ])
          refine wpAnyH_done (by kernel_rfl) ?_ _
          have HE2 := Aside0.mk (HSx.out _ s2)
          clear s0 s1 s2
          go_wp2
          go_roundw
          case rel => exact ⟨i + 1, (by first | rfl | exact congrArg (Value.int .i64) HE4.out), ⟨HLT.out⟩, HJ2, HE2⟩
          case measure => exact measureA _ i _ (by first | rfl | exact HE4.out) HLT.out
        · have c4b0 : (bitA p.a (i : Int) == bitA a (i : Int)) = false := by simpa using hd
          have c4b1 : (bitA p.a (i : Int) != bitA a (i : Int)) = true := by simpa using hd
          have HR := Aside0.mk (hasB_no (p := p) (a := a) (fun h => hd (h.2 i (by have := HLT.out; omega))))
          clear hd
          go_wp2
          have s0 : S wr.drew := HS0.out _ inferInstance
          refine wp_region_held_drew (S := S) (by kernel_rfl) s0 (fun _ => ?_)
          refine wpAnyH_take (i := 0) (v := .pointer (some ⟨g2, 0, none⟩)) rfl (by kernel_rfl) (by kernel_rfl) (by kernel_rfl) (fun _ _ _ h => h) (Or.inl ⟨by rfl, fun w' _ => by go_simp⟩) s0 ?_
          (try simp only [Act.put, List.setIfInBounds_toArray, List.set_cons_zero, List.set_cons_succ])
          refine wpAnyH_take (i := 1) rfl (by kernel_rfl) (by kernel_rfl) (by kernel_rfl) (fun _ _ _ h => h) (yieldsIf_load_mid (by rfl) 28 (.tmp 18) rfl g2 0 rfl (lA p.a) _ (fun w' h => part_addr (HSx.out w' h).1) Tryd.underlying28 rfl (infoL HP.out)) s0 ?_
          (try simp only [Act.put, List.setIfInBounds_toArray, List.set_cons_zero, List.set_cons_succ])
          refine wpAnyH_take (i := 2) (v := .int .i64 (i : Int)) rfl (by kernel_rfl) (by kernel_rfl) (by kernel_rfl) (fun _ _ _ h => h) (Or.inl ⟨by rfl, fun w' _ => by go_simp⟩) s0 ?_
          (try simp only [Act.put, List.setIfInBounds_toArray, List.set_cons_zero, List.set_cons_succ])
          refine wpAnyH_take (i := 4) rfl (by kernel_rfl) (by kernel_rfl) (by kernel_rfl) (fun _ _ _ h => h) (yields_row (by rfl) 28 (.tmp 3) rfl g3 rfl 28 (eA a) (0, 0) _ (fun w' h => (HSx.out w' h).2.1) Tryd.underlying28 rfl (infoE HA.out)) s0 ?_
          (try simp only [Act.put, List.setIfInBounds_toArray, List.set_cons_zero, List.set_cons_succ])
          refine wpAnyH_take (i := 5) (v := .int .i64 (i : Int)) rfl (by kernel_rfl) (by kernel_rfl) (by kernel_rfl) (fun _ _ _ h => h) (Or.inl ⟨by rfl, fun w' _ => by go_simp⟩) s0 ?_
          (try simp only [Act.put, List.setIfInBounds_toArray, List.set_cons_zero, List.set_cons_succ])
          generalize wr.drew = w6 at s0 ⊢
          refine held_step (i := 3) (by kernel_rfl) rfl (by rfl) (fun K hK => ?_)
          go_wp2_with (go_at_call 39; refine (ref04_Bit p.a HP.out (i : Int) w6).mono ?_; rintro e w7 ⟨rfl, hb⟩; have s1 := HSt.out _ _ s0 hb; clear hb)
          refine hK.out _ _ s1 ?_
          clear hK K
          (try simp only [Act.put, List.setIfInBounds_toArray, List.set_cons_zero, List.set_cons_succ])
          refine held_step (i := 6) (by kernel_rfl) rfl (by rfl) (fun K hK => ?_)
          go_wp2_with (go_at_call 39; refine (ref04_Bit a HA.out (i : Int) w7).mono ?_; rintro e w8 ⟨rfl, hb⟩; have s2 := HSt.out _ _ s1 hb; clear hb)
          refine hK.out _ _ s2 ?_
          clear hK K
          (try simp only [Act.put, List.setIfInBounds_toArray, List.set_cons_zero, List.set_cons_succ])
          refine held_step (i := 7) (by kernel_rfl) rfl (by rfl) (fun K hK => ?_)
          go_wp2
          refine hK.out _ _ s2 ?_
          clear hK K
          (try simp only [Act.put, List.setIfInBounds_toArray, List.set_cons_zero, List.set_cons_succ])
          refine wpAnyH_done (by kernel_rfl) ?_ _
          have HE2 := Aside0.mk (HSx.out _ s2)
          clear s0 s1 s2
          go_wp2
          go_ret
          exact ⟨by rw [HR.out]; first | done | rfl, HE2.out.2.2⟩
      · have c3b0 : decide ((i : Int) < p.n) = false := decide_eq_false (by omega)
        have HR := Aside0.mk ((hasB_iff p a).2 ⟨HFA.out, fun j hj => HJ.out j (by omega)⟩)
        have HB := Aside0.mk HE.out.2.2
        clear hlt
        go_wp2
        go_ret
        exact ⟨by rw [HR.out]; first | done | rfl, bel_later HB.out⟩
  · have c1b0 : (p.a.fam == a.fam) = false := by simpa using hf
    have c1b1 : (p.a.fam != a.fam) = true := by simpa using hf
    have HR := Aside0.mk (hasB_no (p := p) (a := a) (fun h => hf h.1))
    clear hf
    go_enter Tryd.func18, Tryd.ntmps18
    go_wp2_with (first
      | ((with_reducible refine gate_dst (N := 2) rfl ?_); refine box_event ?hg (N := 2) ?hd (cs := eP p) (t := 35) ?hr ?_; (case hd => rfl); (case hg => rfl); (case hr => first | (go_simp; done) | (go_simp; rfl)); intro g2 hg w1 hbox hb; have HX := Aside0.mk hbox; replace HB := Aside0.mk (below_step (bel_later HB.out) hb); clear hb hg hbox)
      | ((with_reducible refine gate_dst (N := 3) rfl ?_); refine box_event ?hg (N := 3) ?hd (cs := eA a) (t := 28) ?hr ?_; (case hd => rfl); (case hg => rfl); (case hr => first | (go_simp; done) | (go_simp; rfl)); intro g3 hg w2 hbox hb; have HY := Aside0.mk hbox; replace HX := Aside0.mk (blk_below (blk_later HX.out) hb); replace HB := Aside0.mk (below_step (bel_later HB.out) hb); have h0 := (blk_cell HX.out 0).trans (eP_fam p); have h1 := (blk_cell HY.out 0).trans (eA_fam a); clear hb hg hbox))
    go_ret
    exact ⟨by rw [HR.out]; first | done | rfl, HB.out⟩
def cmpP (p q : Pf) : Int := if cmpA p.a q.a ≠ 0 then cmpA p.a q.a else if p.n < q.n then -1 else if q.n < p.n then 1 else 0
/-- Are so many bytes from a place on all 0? -/
def zerB (l : List Int) : Nat → Nat → Bool
  | 0, _ => true
  | d + 1, i => byt l i == 0 && zerB l d (i + 1)
def fromA (f : Int) : Nat := if f = 0 then 0 else if f = 4 then 4 else 16
def famB (f : Int) : Bool := f == 0 || f == 4 || f == 6
def mayA (a : Ad) : Bool := zerB a.bs (16 - fromA a.fam) (fromA a.fam) && famB a.fam
def mayPP (p : Pf) : Prop := mayA p.a = true ∧ p.a.fam ≠ 0 ∧ 0 ≤ p.n ∧ p.n ≤ bitsOf p.a.fam ∧ ∀ j : Nat, p.n ≤ (j : Int) → (j : Int) < bitsOf p.a.fam → bitA p.a j = 0
def mayP (p : Pf) : Bool := mayA p.a && decide (p.a.fam ≠ 0) && decide (0 ≤ p.n) && decide (p.n ≤ bitsOf p.a.fam) && (List.range (bitsOf p.a.fam).toNat).all fun j => decide (p.n ≤ (j : Int) → bitA p.a j = 0)
theorem mayP_iff (p : Pf) : mayP p = true ↔ mayPP p := by
  unfold mayP mayPP
  simp only [Bool.and_eq_true, decide_eq_true_eq, List.all_eq_true, List.mem_range]
  constructor
  · rintro ⟨⟨⟨⟨h1, h2⟩, h3⟩, h4⟩, h5⟩
    exact ⟨h1, h2, h3, h4, fun j a b => h5 j (by omega) a⟩
  · rintro ⟨h1, h2, h3, h4, h5⟩
    exact ⟨⟨⟨⟨h1, h2⟩, h3⟩, h4⟩, fun j a b => h5 j b (by omega)⟩
section
variable {P : Program} {ops : Array Oper} {Q : Exit → Act → World → Prop} {md : Region.Mode} {S : World → Prop}
/-- From a region on: the world behind the draw as a letter ('generalize' of the draw does not end). -/
theorem anyH_world {fuel : Nat} {listed : Array Bool} {a : Act} {w : World} (hs : S w) (h : ∀ w' : World, S w' → wpAnyH P md ops Q S fuel listed a w') : wpAnyH P md ops Q S fuel listed a w := h w hs
end
end Go.Proofs.YtjilnigmbnmlfaaDoor.P
end
