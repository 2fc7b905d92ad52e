/-
  Texts of the proof, put together.
-/
import Derived.Test.YthdognlkacjkhaaGreatDoorM2
import Derived.Great.BuildSlice
import Derived.Deep.RegionHeld2
section
namespace Go.Proofs.YthdognlkacjkhaaGreatDoor.P
open Go.RowKit Go.Proofs.YthdognlkacjkhaaGreatDoorW.PrintWords Go.Proofs.YthdognlkacjkhaaGreatDoorW.PrintLast Go.Proofs.YthdognlkacjkhaaGreatDoorW.PrintMore
set_option linter.unusedVariables false
set_option linter.unusedSimpArgs false
structure Pf where
  a : Ad
  n : Int
def eP (p : Pf) : Array Value := (lA p.a ++ [Value.int .i64 p.n]).toArray
def noP : Pf := ⟨noA, 0⟩
theorem lA_len {a : Ad} (h : a.ok) : (lA a).length = 17 := by unfold lA; simp [h.1]
theorem eP_size {p : Pf} (h : p.a.ok) : (eP p).size = 18 := by unfold eP; simp [lA_len h]
theorem eP_one (p : Pf) : (eP p).all (·.oneCell') = true := by
  unfold eP
  rw [Array.all_eq_true_iff_forall_mem]
  intro v hv
  rcases List.mem_append.1 (List.mem_toArray.1 hv) with h | h
  · exact (Array.all_eq_true_iff_forall_mem.1 (eA_one p.a)) v (by unfold eA; exact List.mem_toArray.2 h)
  · rw [List.mem_singleton.1 h]; rfl
theorem eP_fam (p : Pf) : (eP p)[0]? = some (.int .i64 p.a.fam) := rfl
theorem eP_n {p : Pf} (h : p.a.ok) : (eP p)[17]? = some (.int .i64 p.n) := by
  unfold eP
  rw [List.getElem?_toArray, List.getElem?_append_right (by rw [lA_len h]; exact Nat.le_refl _), lA_len h]
  rfl
theorem infoP : (Tryz.prog.info? 42).map (·.size) = some 18 := by kernel_rfl
theorem infoEP {p : Pf} (h : p.a.ok) : (Tryz.prog.info? 42).map (·.size) = some (eP p).size := by rw [eP_size h]; exact infoP
theorem infoL {a : Ad} (h : a.ok) : (Tryz.prog.info? 30).map (·.size) = some (lA a).length := by rw [lA_len h]; exact infoA
theorem part_addr {w : World} {g : Nat} {p : Pf} {t : TypeId} (hg : w.heap[g]? = some (.cells (eP p) t (0, 0))) : w.rangeAt g 0 (lA p.a) := fun j v hv => by
  rw [Nat.zero_add, cell_of_row w g j (eP p) t (0, 0) hg]
  unfold eP
  rw [List.getElem?_toArray, List.getElem?_append_left (List.getElem?_eq_some_iff.1 hv).1]
  exact hv
/-- A prefix's address, out of the prefix's block. -/
theorem load_addr {ops : Array Oper} {rest : List Oper} {op : Oper} {a : Act} {w : World} {Q : Exit → Act → World → Prop} {g : Nat} {p : Pf} (hgd : op.guard = none) (x : Operand) (ho : op.op = .load 30 x)
    (hx : a.eval x = .pointer (some ⟨g, 0, none⟩)) (hok : p.a.ok) (hg : w.heap[g]? = some (.cells (eP p) 42 (0, 0))) (h : wpList Tryz.prog ops Q rest (a.put op.dst (.agg (eA p.a))) w) : wpList Tryz.prog ops Q (op :: rest) a w :=
  wpList_load_mid hgd 30 x ho g 0 hx (lA p.a) _ (part_addr hg) Tryz.underlying30 rfl (infoL hok) h
theorem built_pf16 (f n b0 b1 b2 b3 b4 b5 b6 b7 b8 b9 b10 b11 b12 b13 b14 b15 : Int) : Tryz.prog.built 42 [(0, .agg (eA ⟨f, [b0, b1, b2, b3, b4, b5, b6, b7, b8, b9, b10, b11, b12, b13, b14, b15]⟩)), (1, .int .i64 n)] = some (eP ⟨⟨f, [b0, b1, b2, b3, b4, b5, b6, b7, b8, b9, b10, b11, b12, b13, b14, b15]⟩, n⟩) := by kernel_rfl
theorem built_pf {a : Ad} (h : a.ok) (n : Int) : Tryz.prog.built 42 [(0, .agg (eA a)), (1, .int .i64 n)] = some (eP ⟨a, n⟩) := by
  obtain ⟨f, bs⟩ := a
  match bs, h.1 with
  | [b0, b1, b2, b3, b4, b5, b6, b7, b8, b9, b10, b11, b12, b13, b14, b15], _ => exact built_pf16 f n b0 b1 b2 b3 b4 b5 b6 b7 b8 b9 b10 b11 b12 b13 b14 b15
/-! ### regions that draw their order, with whole loads beside calls -/
section
variable {P : Program} {ops : Array Oper} {Q : Exit → Act → World → Prop} {md : Region.Mode} {S : World → Prop}
theorem yields_row {op : Oper} {a : Act} (hw : Region.wanted op (yielded ops a.tmps) = true) (ty : TypeId) (x : Operand) (ho : op.op = .load ty x) (g : Nat) (hx : a.eval x = .pointer (some ⟨g, 0, none⟩)) (t : TypeId) (cs : Array Value) (fr : Nat × Nat) (d : TypeDesc)
    (hS : ∀ w, S w → w.heap[g]? = some (.cells cs t fr)) (hu : P.underlying ty = some d) (hd : (match d with | .struct _ | .array _ _ => true | _ => false) = true) (hi : (P.info? ty).map (·.size) = some cs.size) : YieldsIf P ops S op (.agg cs) a :=
  .inl ⟨hw, fun w hw' => by
    unfold execOp
    simp only [ho, hx, Instr.loadAt, Instr.sureAddr, Sem.run_bind, Sem.run_pure, Result.andThen_ok, run_loadVar_row w g t ty cs fr d (hS w hw') hu hd hi]⟩
theorem held_step {i : Nat} {o : Oper} {fuel : Nat} {listed : Array Bool} {a : Act} {w : World} (hr : Region.ready md ops listed = [i]) (ho : ops[i]? = some o) (hw : Region.wanted o (yielded ops a.tmps) = true)
    (h : ∀ K' : Act → World → Prop, Shut (∀ a' w', S w' → wpAnyH P md ops Q S fuel (listed.setIfInBounds i true) a' w' → K' a' w') → Oper.wp P o a w K' Q) : wpAnyH P md ops Q S (fuel + 1) listed a w :=
  wpAnyH_ready hr (by simp) (AllReadyH.cons ho (fun K' hK => by
    rw [if_pos hw]
    exact h K' (fun a' w' hS hW => hK.out a' w' hS (fun _ => hW))) AllReadyH.nil)
end
/-! ### a number below another -/
/-! ### an address cut down to so many bits -/
def maskN (a : Ad) (n : Int) : Int := if bitsOf a.fam < (if n < 0 then 0 else n) then bitsOf a.fam else (if n < 0 then 0 else n)
def hasP (p : Pf) (a : Ad) : Prop := p.a.fam = a.fam ∧ ∀ j : Nat, (j : Int) < p.n → bitA p.a j = bitA a j
def hasB (p : Pf) (a : Ad) : Bool := decide (p.a.fam = a.fam) && (List.range p.n.toNat).all fun j => decide (bitA p.a j = bitA a j)
theorem hasB_iff (p : Pf) (a : Ad) : hasB p a = true ↔ hasP p a := by
  unfold hasB hasP
  simp only [Bool.and_eq_true, decide_eq_true_eq, List.all_eq_true, List.mem_range]
  exact ⟨fun ⟨h1, h2⟩ => ⟨h1, fun j hj => h2 j (by omega)⟩, fun ⟨h1, h2⟩ => ⟨h1, fun j hj => h2 j (by omega)⟩⟩
theorem hasB_no {p : Pf} {a : Ad} (h : ¬ hasP p a) : hasB p a = false := by
  cases hb : hasB p a
  · rfl
  · exact absurd ((hasB_iff p a).1 hb) h
set_option maxHeartbeats 4000000 in
set_option maxRecDepth 100000 in
theorem ref05_Has (p : Pf) (hp : p.a.ok) (hn : p.n ≤ 1000000) (a : Ad) (ha : a.ok) (w : World) : Calls Tryz.prog 28 #[.agg (eP p), .agg (eA a)] w fun e w' => e = .returned (.bool (hasB p a)) ∧ Below w.heap.size w w' := by
  have HB := Aside0.mk (Below.refl w.heap.size w)
  have HP := Aside0.mk hp
  have HA := Aside0.mk ha
  have HN := Aside0.mk hn
  clear hp ha hn
  by_cases hf : p.a.fam = a.fam
  · have c1b0 : (p.a.fam == a.fam) = true := by simpa using hf
    have c1b1 : (p.a.fam != a.fam) = false := by simpa using hf
    have HFA := Aside0.mk hf
    clear hf
    go_enter Tryz.func28, Tryz.ntmps28
    go_wp2_with (first
      | ((with_reducible refine gate_dst (N := 2) rfl ?_); refine box_event ?hg (N := 2) ?hd (cs := eP p) (t := 42) ?hr ?_; (case hd => rfl); (case hg => rfl); (case hr => first | (go_simp; done) | (go_simp; rfl)); intro g2 hg w1 hbox hb; have HX := Aside0.mk hbox; replace HB := Aside0.mk (below_step (bel_later HB.out) hb); clear hb hg hbox)
      | ((with_reducible refine gate_dst (N := 3) rfl ?_); refine box_event ?hg (N := 3) ?hd (cs := eA a) (t := 30) ?hr ?_; (case hd => rfl); (case hg => rfl); (case hr => first | (go_simp; done) | (go_simp; rfl)); intro g3 hg w2 hbox hb; have HY := Aside0.mk hbox; replace HX := Aside0.mk (blk_below (blk_later HX.out) hb); replace HB := Aside0.mk (below_step (bel_later HB.out) hb); have h0 := (blk_cell HX.out 0).trans (eP_fam p); have h1 := (blk_cell HY.out 0).trans (eA_fam a); clear hb hg hbox))
    go_loopw [5] (fun v5 wr => ∃ i : Nat, v5 = .int .i64 (i : Int) ∧ Aside0 (i ≤ p.n.toNat) ∧ Aside0 (∀ j : Nat, j < i → bitA p.a j = bitA a j) ∧ Aside0 (wr.heap[g2]? = some (.cells (eP p) 42 (0, 0)) ∧ wr.heap[g3]? = some (.cells (eA a) 30 (0, 0)) ∧ Below w.heap.size w wr)) (fun v5 _ => p.n.toNat - (intOf v5).toNat)
    case atStart => exact ⟨0, rfl, ⟨Nat.zero_le _⟩, ⟨fun j h => absurd h (Nat.not_lt_zero _)⟩, ⟨HX.out, HY.out, HB.out⟩⟩
    case round =>
      obtain ⟨i, rfl, HI, HJ, HE⟩ := hrel
      clear HX HY HB
      have hn := (blk_cell HE.out.1 17).trans (eP_n HP.out)
      by_cases hlt : i < p.n.toNat
      · have c3b0 : decide ((i : Int) < p.n) = true := decide_eq_true (by omega)
        have e4 : wrap64 ((i : Int) + 1) = ((i + 1 : Nat) : Int) := wrap_sm1 i (by have := HN.out; omega)
        have HE4 := Aside0.mk e4
        have HLT := Aside0.mk hlt
        clear hlt
        obtain ⟨S, hS⟩ : ∃ S : World → Prop, S = fun w' => w'.heap[g2]? = some (.cells (eP p) 42 (0, 0)) ∧ w'.heap[g3]? = some (.cells (eA a) 30 (0, 0)) ∧ Below w.heap.size w w' := ⟨_, rfl⟩
        have HSt := Aside0.mk (show ∀ a b : World, S a → Below a.heap.size a b → S b by
          intro a b h hb
          rw [hS] at h ⊢
          exact ⟨blk_below h.1 hb, blk_below h.2.1 hb, below_step h.2.2 hb⟩)
        have HSx := Aside0.mk (show ∀ b : World, S b → b.heap[g2]? = some (.cells (eP p) 42 (0, 0)) ∧ b.heap[g3]? = some (.cells (eA a) 30 (0, 0)) ∧ Below w.heap.size w b by
          intro b h
          rw [hS] at h
          exact h)
        have HS0 := Aside0.mk (show ∀ b : World, Later wr b → S b by
          intro b k
          rw [hS]
          exact ⟨blk_later HE.out.1, blk_later HE.out.2.1, bel_later HE.out.2.2⟩)
        clear hS HE
        by_cases hd : bitA p.a i = bitA a i
        · have c4b0 : (bitA p.a (i : Int) == bitA a (i : Int)) = true := by simpa using hd
          have c4b1 : (bitA p.a (i : Int) != bitA a (i : Int)) = false := by simpa using hd
          have HJ2 := Aside0.mk (show ∀ j : Nat, j < i + 1 → bitA p.a j = bitA a j by
            intro j hj
            by_cases hji : j < i
            · exact HJ.out j hji
            · rw [show j = i by omega]; exact hd)
          clear hd
          go_wp2
          have s0 : S wr.drew := HS0.out _ inferInstance
          refine wp_region_held_drew (S := S) (by kernel_rfl) s0 (fun _ => ?_)
          refine wpAnyH_take (i := 0) (v := .pointer (some ⟨g2, 0, none⟩)) rfl (by kernel_rfl) (by kernel_rfl) (by kernel_rfl) (fun _ _ _ h => h) (Or.inl ⟨by rfl, fun w' _ => by go_simp⟩) s0 ?_
          (try simp only [Act.put, List.setIfInBounds_toArray, List.set_cons_zero, List.set_cons_succ])
          refine wpAnyH_take (i := 1) rfl (by kernel_rfl) (by kernel_rfl) (by kernel_rfl) (fun _ _ _ h => h) (yieldsIf_load_mid (by rfl) 30 (.tmp 18) rfl g2 0 rfl (lA p.a) _ (fun w' h => part_addr (HSx.out w' h).1) Tryz.underlying30 rfl (infoL HP.out)) s0 ?_
          (try simp only [Act.put, List.setIfInBounds_toArray, List.set_cons_zero, List.set_cons_succ])
          refine wpAnyH_take (i := 2) (v := .int .i64 (i : Int)) rfl (by kernel_rfl) (by kernel_rfl) (by kernel_rfl) (fun _ _ _ h => h) (Or.inl ⟨by rfl, fun w' _ => by go_simp⟩) s0 ?_
          (try simp only [Act.put, List.setIfInBounds_toArray, List.set_cons_zero, List.set_cons_succ])
          refine wpAnyH_take (i := 4) rfl (by kernel_rfl) (by kernel_rfl) (by kernel_rfl) (fun _ _ _ h => h) (yields_row (by rfl) 30 (.tmp 3) rfl g3 rfl 30 (eA a) (0, 0) _ (fun w' h => (HSx.out w' h).2.1) Tryz.underlying30 rfl (infoE HA.out)) s0 ?_
          (try simp only [Act.put, List.setIfInBounds_toArray, List.set_cons_zero, List.set_cons_succ])
          refine wpAnyH_take (i := 5) (v := .int .i64 (i : Int)) rfl (by kernel_rfl) (by kernel_rfl) (by kernel_rfl) (fun _ _ _ h => h) (Or.inl ⟨by rfl, fun w' _ => by go_simp⟩) s0 ?_
          (try simp only [Act.put, List.setIfInBounds_toArray, List.set_cons_zero, List.set_cons_succ])
          generalize wr.drew = w6 at s0 ⊢
          refine held_step (i := 3) (by kernel_rfl) rfl (by rfl) (fun K hK => ?_)
          go_wp2_with (go_at_call 52; refine (ref04_Bit p.a HP.out (i : Int) w6).mono ?_; rintro e w7 ⟨rfl, hb⟩; have s1 := HSt.out _ _ s0 hb; clear hb)
          refine hK.out _ _ s1 ?_
          clear hK K
          (try simp only [Act.put, List.setIfInBounds_toArray, List.set_cons_zero, List.set_cons_succ])
          refine held_step (i := 6) (by kernel_rfl) rfl (by rfl) (fun K hK => ?_)
          go_wp2_with (go_at_call 52; refine (ref04_Bit a HA.out (i : Int) w7).mono ?_; rintro e w8 ⟨rfl, hb⟩; have s2 := HSt.out _ _ s1 hb; clear hb)
          refine hK.out _ _ s2 ?_
          clear hK K
          (try simp only [Act.put, List.setIfInBounds_toArray, List.set_cons_zero, List.set_cons_succ])
          refine held_step (i := 7) (by kernel_rfl) rfl (by rfl) (fun K hK => ?_)
          go_wp2
          refine hK.out _ _ s2 ?_
          clear hK K
          (try simp only [Act.put, List.setIfInBounds_toArray, List.set_cons_zero, List.set_cons_succ])
          refine wpAnyH_done (by kernel_rfl) ?_ _
          have HE2 := Aside0.mk (HSx.out _ s2)
          clear s0 s1 s2
          go_wp2
          go_roundw
          case rel => exact ⟨i + 1, (by first | rfl | exact congrArg (Value.int .i64) HE4.out), ⟨HLT.out⟩, HJ2, HE2⟩
          case measure => exact measureA _ i _ (by first | rfl | exact HE4.out) HLT.out
        · have c4b0 : (bitA p.a (i : Int) == bitA a (i : Int)) = false := by simpa using hd
          have c4b1 : (bitA p.a (i : Int) != bitA a (i : Int)) = true := by simpa using hd
          have HR := Aside0.mk (hasB_no (p := p) (a := a) (fun h => hd (h.2 i (by have := HLT.out; omega))))
          clear hd
          go_wp2
          have s0 : S wr.drew := HS0.out _ inferInstance
          refine wp_region_held_drew (S := S) (by kernel_rfl) s0 (fun _ => ?_)
          refine wpAnyH_take (i := 0) (v := .pointer (some ⟨g2, 0, none⟩)) rfl (by kernel_rfl) (by kernel_rfl) (by kernel_rfl) (fun _ _ _ h => h) (Or.inl ⟨by rfl, fun w' _ => by go_simp⟩) s0 ?_
          (try simp only [Act.put, List.setIfInBounds_toArray, List.set_cons_zero, List.set_cons_succ])
          refine wpAnyH_take (i := 1) rfl (by kernel_rfl) (by kernel_rfl) (by kernel_rfl) (fun _ _ _ h => h) (yieldsIf_load_mid (by rfl) 30 (.tmp 18) rfl g2 0 rfl (lA p.a) _ (fun w' h => part_addr (HSx.out w' h).1) Tryz.underlying30 rfl (infoL HP.out)) s0 ?_
          (try simp only [Act.put, List.setIfInBounds_toArray, List.set_cons_zero, List.set_cons_succ])
          refine wpAnyH_take (i := 2) (v := .int .i64 (i : Int)) rfl (by kernel_rfl) (by kernel_rfl) (by kernel_rfl) (fun _ _ _ h => h) (Or.inl ⟨by rfl, fun w' _ => by go_simp⟩) s0 ?_
          (try simp only [Act.put, List.setIfInBounds_toArray, List.set_cons_zero, List.set_cons_succ])
          refine wpAnyH_take (i := 4) rfl (by kernel_rfl) (by kernel_rfl) (by kernel_rfl) (fun _ _ _ h => h) (yields_row (by rfl) 30 (.tmp 3) rfl g3 rfl 30 (eA a) (0, 0) _ (fun w' h => (HSx.out w' h).2.1) Tryz.underlying30 rfl (infoE HA.out)) s0 ?_
          (try simp only [Act.put, List.setIfInBounds_toArray, List.set_cons_zero, List.set_cons_succ])
          refine wpAnyH_take (i := 5) (v := .int .i64 (i : Int)) rfl (by kernel_rfl) (by kernel_rfl) (by kernel_rfl) (fun _ _ _ h => h) (Or.inl ⟨by rfl, fun w' _ => by go_simp⟩) s0 ?_
          (try simp only [Act.put, List.setIfInBounds_toArray, List.set_cons_zero, List.set_cons_succ])
          generalize wr.drew = w6 at s0 ⊢
          refine held_step (i := 3) (by kernel_rfl) rfl (by rfl) (fun K hK => ?_)
          go_wp2_with (go_at_call 52; refine (ref04_Bit p.a HP.out (i : Int) w6).mono ?_; rintro e w7 ⟨rfl, hb⟩; have s1 := HSt.out _ _ s0 hb; clear hb)
          refine hK.out _ _ s1 ?_
          clear hK K
          (try simp only [Act.put, List.setIfInBounds_toArray, List.set_cons_zero, List.set_cons_succ])
          refine held_step (i := 6) (by kernel_rfl) rfl (by rfl) (fun K hK => ?_)
          go_wp2_with (go_at_call 52; refine (ref04_Bit a HA.out (i : Int) w7).mono ?_; rintro e w8 ⟨rfl, hb⟩; have s2 := HSt.out _ _ s1 hb; clear hb)
          refine hK.out _ _ s2 ?_
          clear hK K
          (try simp only [Act.put, List.setIfInBounds_toArray, List.set_cons_zero, List.set_cons_succ])
          refine held_step (i := 7) (by kernel_rfl) rfl (by rfl) (fun K hK => ?_)
          go_wp2
          refine hK.out _ _ s2 ?_
          clear hK K
          (try simp only [Act.put, List.setIfInBounds_toArray, List.set_cons_zero, List.set_cons_succ])
          refine wpAnyH_done (by kernel_rfl) ?_ _
          have HE2 := Aside0.mk (HSx.out _ s2)
          clear s0 s1 s2
          go_wp2
          go_ret
          exact ⟨by rw [HR.out]; first | done | rfl, HE2.out.2.2⟩
      · have c3b0 : decide ((i : Int) < p.n) = false := decide_eq_false (by omega)
        have HR := Aside0.mk ((hasB_iff p a).2 ⟨HFA.out, fun j hj => HJ.out j (by omega)⟩)
        have HB := Aside0.mk HE.out.2.2
        clear hlt
        go_wp2
        go_ret
        exact ⟨by rw [HR.out]; first | done | rfl, bel_later HB.out⟩
  · have c1b0 : (p.a.fam == a.fam) = false := by simpa using hf
    have c1b1 : (p.a.fam != a.fam) = true := by simpa using hf
    have HR := Aside0.mk (hasB_no (p := p) (a := a) (fun h => hf h.1))
    clear hf
    go_enter Tryz.func28, Tryz.ntmps28
    go_wp2_with (first
      | ((with_reducible refine gate_dst (N := 2) rfl ?_); refine box_event ?hg (N := 2) ?hd (cs := eP p) (t := 42) ?hr ?_; (case hd => rfl); (case hg => rfl); (case hr => first | (go_simp; done) | (go_simp; rfl)); intro g2 hg w1 hbox hb; have HX := Aside0.mk hbox; replace HB := Aside0.mk (below_step (bel_later HB.out) hb); clear hb hg hbox)
      | ((with_reducible refine gate_dst (N := 3) rfl ?_); refine box_event ?hg (N := 3) ?hd (cs := eA a) (t := 30) ?hr ?_; (case hd => rfl); (case hg => rfl); (case hr => first | (go_simp; done) | (go_simp; rfl)); intro g3 hg w2 hbox hb; have HY := Aside0.mk hbox; replace HX := Aside0.mk (blk_below (blk_later HX.out) hb); replace HB := Aside0.mk (below_step (bel_later HB.out) hb); have h0 := (blk_cell HX.out 0).trans (eP_fam p); have h1 := (blk_cell HY.out 0).trans (eA_fam a); clear hb hg hbox))
    go_ret
    exact ⟨by rw [HR.out]; first | done | rfl, HB.out⟩
def cmpP (p q : Pf) : Int := if cmpA p.a q.a ≠ 0 then cmpA p.a q.a else if p.n < q.n then -1 else if q.n < p.n then 1 else 0
set_option maxHeartbeats 4000000 in
set_option maxRecDepth 100000 in
theorem ref05_Compare (p q : Pf) (hp : p.a.ok) (hq : q.a.ok) (w : World) : Calls Tryz.prog 45 #[.agg (eP p), .agg (eP q)] w fun e w' => e = .returned (.int .i64 (cmpP p q)) ∧ Below w.heap.size w w' := by
  have HB := Aside0.mk (Below.refl w.heap.size w)
  have HP := Aside0.mk hp
  have HQ := Aside0.mk hq
  clear hp hq
  generalize hc : cmpA p.a q.a = c at *
  by_cases h0 : c = 0
  · subst h0
    by_cases h1 : p.n < q.n
    · have c2b0 : decide (p.n < q.n) = true := decide_eq_true h1
      have HR := Aside0.mk (show cmpP p q = -1 by unfold cmpP; rw [hc, if_neg (fun h => h rfl), if_pos h1])
      have HC := Aside0.mk hc
      clear h1 hc
      go_enter Tryz.func45, Tryz.ntmps45
      go_wp2_with (first
        | ((with_reducible refine gate_dst (N := 2) rfl ?_); refine box_event ?hg (N := 2) ?hd (cs := eP p) (t := 42) ?hr ?_; (case hd => rfl); (case hg => rfl); (case hr => first | (go_simp; done) | (go_simp; rfl)); intro g2 hg w2 hbox hb; have HX := Aside0.mk hbox; replace HB := Aside0.mk (below_step (bel_later HB.out) hb); clear hb hg hbox)
        | ((with_reducible refine gate_dst (N := 3) rfl ?_); refine box_event ?hg (N := 3) ?hd (cs := eP q) (t := 42) ?hr ?_; (case hd => rfl); (case hg => rfl); (case hr => first | (go_simp; done) | (go_simp; rfl)); intro g3 hg w3 hbox hb; have HY := Aside0.mk hbox; replace HB := Aside0.mk (below_step (bel_later HB.out) hb); replace HX := Aside0.mk (blk_below (blk_later HX.out) hb); clear hb hg hbox)
        | ((with_reducible refine gate_dst (N := 7) rfl ?_); refine load_addr rfl (.tmp 6) rfl rfl HP.out HX.out ?_)
        | ((with_reducible refine gate_dst (N := 9) rfl ?_); refine load_addr rfl (.tmp 8) rfl rfl HQ.out HY.out ?_)
        | (go_at_call 76; refine (ref04_Compare p.a q.a HP.out HQ.out w3).mono ?_; rintro e w4 ⟨rfl, hb⟩; rw [HC.out]; have HX4 := Aside0.mk (blk_below HX.out hb); have HY4 := Aside0.mk (blk_below HY.out hb); have HB4 := Aside0.mk (below_step HB.out hb); have hn1 := (blk_cell HX4.out 17).trans (eP_n HP.out); have hn2 := (blk_cell HY4.out 17).trans (eP_n HQ.out); clear hb))
      (try go_quiet (fail))
      (try go_wp2)
      (try go_quiet (fail))
      (try go_wp2)
      go_ret
      exact ⟨by rw [HR.out]; first | done | rfl, by first | exact HB4.out | exact bel_later HB4.out⟩
    · have c2b0 : decide (p.n < q.n) = false := decide_eq_false h1
      by_cases h2 : q.n < p.n
      · have c3b0 : decide (q.n < p.n) = true := decide_eq_true h2
        have HR := Aside0.mk (show cmpP p q = 1 by unfold cmpP; rw [hc, if_neg (fun h => h rfl), if_neg h1, if_pos h2])
        have HC := Aside0.mk hc
        clear h1 h2 hc
        go_enter Tryz.func45, Tryz.ntmps45
        go_wp2_with (first
          | ((with_reducible refine gate_dst (N := 2) rfl ?_); refine box_event ?hg (N := 2) ?hd (cs := eP p) (t := 42) ?hr ?_; (case hd => rfl); (case hg => rfl); (case hr => first | (go_simp; done) | (go_simp; rfl)); intro g2 hg w2 hbox hb; have HX := Aside0.mk hbox; replace HB := Aside0.mk (below_step (bel_later HB.out) hb); clear hb hg hbox)
          | ((with_reducible refine gate_dst (N := 3) rfl ?_); refine box_event ?hg (N := 3) ?hd (cs := eP q) (t := 42) ?hr ?_; (case hd => rfl); (case hg => rfl); (case hr => first | (go_simp; done) | (go_simp; rfl)); intro g3 hg w3 hbox hb; have HY := Aside0.mk hbox; replace HB := Aside0.mk (below_step (bel_later HB.out) hb); replace HX := Aside0.mk (blk_below (blk_later HX.out) hb); clear hb hg hbox)
          | ((with_reducible refine gate_dst (N := 7) rfl ?_); refine load_addr rfl (.tmp 6) rfl rfl HP.out HX.out ?_)
          | ((with_reducible refine gate_dst (N := 9) rfl ?_); refine load_addr rfl (.tmp 8) rfl rfl HQ.out HY.out ?_)
          | (go_at_call 76; refine (ref04_Compare p.a q.a HP.out HQ.out w3).mono ?_; rintro e w4 ⟨rfl, hb⟩; rw [HC.out]; have HX4 := Aside0.mk (blk_below HX.out hb); have HY4 := Aside0.mk (blk_below HY.out hb); have HB4 := Aside0.mk (below_step HB.out hb); have hn1 := (blk_cell HX4.out 17).trans (eP_n HP.out); have hn2 := (blk_cell HY4.out 17).trans (eP_n HQ.out); clear hb))
        (try go_quiet (fail))
        (try go_wp2)
        (try go_quiet (fail))
        (try go_wp2)
        go_ret
        exact ⟨by rw [HR.out]; first | done | rfl, by first | exact HB4.out | exact bel_later HB4.out⟩
      · have c3b0 : decide (q.n < p.n) = false := decide_eq_false h2
        have HR := Aside0.mk (show cmpP p q = 0 by unfold cmpP; rw [hc, if_neg (fun h => h rfl), if_neg h1, if_neg h2])
        have HC := Aside0.mk hc
        clear h1 h2 hc
        go_enter Tryz.func45, Tryz.ntmps45
        go_wp2_with (first
          | ((with_reducible refine gate_dst (N := 2) rfl ?_); refine box_event ?hg (N := 2) ?hd (cs := eP p) (t := 42) ?hr ?_; (case hd => rfl); (case hg => rfl); (case hr => first | (go_simp; done) | (go_simp; rfl)); intro g2 hg w2 hbox hb; have HX := Aside0.mk hbox; replace HB := Aside0.mk (below_step (bel_later HB.out) hb); clear hb hg hbox)
          | ((with_reducible refine gate_dst (N := 3) rfl ?_); refine box_event ?hg (N := 3) ?hd (cs := eP q) (t := 42) ?hr ?_; (case hd => rfl); (case hg => rfl); (case hr => first | (go_simp; done) | (go_simp; rfl)); intro g3 hg w3 hbox hb; have HY := Aside0.mk hbox; replace HB := Aside0.mk (below_step (bel_later HB.out) hb); replace HX := Aside0.mk (blk_below (blk_later HX.out) hb); clear hb hg hbox)
          | ((with_reducible refine gate_dst (N := 7) rfl ?_); refine load_addr rfl (.tmp 6) rfl rfl HP.out HX.out ?_)
          | ((with_reducible refine gate_dst (N := 9) rfl ?_); refine load_addr rfl (.tmp 8) rfl rfl HQ.out HY.out ?_)
          | (go_at_call 76; refine (ref04_Compare p.a q.a HP.out HQ.out w3).mono ?_; rintro e w4 ⟨rfl, hb⟩; rw [HC.out]; have HX4 := Aside0.mk (blk_below HX.out hb); have HY4 := Aside0.mk (blk_below HY.out hb); have HB4 := Aside0.mk (below_step HB.out hb); have hn1 := (blk_cell HX4.out 17).trans (eP_n HP.out); have hn2 := (blk_cell HY4.out 17).trans (eP_n HQ.out); clear hb))
        (try go_quiet (fail))
        (try go_wp2)
        (try go_quiet (fail))
        (try go_wp2)
        go_ret
        exact ⟨by rw [HR.out]; first | done | rfl, by first | exact HB4.out | exact bel_later HB4.out⟩
  · have c2b0 : (c == 0) = false := by simpa using h0
    have c2b1 : (c != 0) = true := by simpa using h0
    have HR := Aside0.mk (show cmpP p q = c by unfold cmpP; rw [hc, if_pos h0])
    have HC := Aside0.mk hc
    clear h0 hc
    go_enter Tryz.func45, Tryz.ntmps45
    go_wp2_with (first
      | ((with_reducible refine gate_dst (N := 2) rfl ?_); refine box_event ?hg (N := 2) ?hd (cs := eP p) (t := 42) ?hr ?_; (case hd => rfl); (case hg => rfl); (case hr => first | (go_simp; done) | (go_simp; rfl)); intro g2 hg w2 hbox hb; have HX := Aside0.mk hbox; replace HB := Aside0.mk (below_step (bel_later HB.out) hb); clear hb hg hbox)
      | ((with_reducible refine gate_dst (N := 3) rfl ?_); refine box_event ?hg (N := 3) ?hd (cs := eP q) (t := 42) ?hr ?_; (case hd => rfl); (case hg => rfl); (case hr => first | (go_simp; done) | (go_simp; rfl)); intro g3 hg w3 hbox hb; have HY := Aside0.mk hbox; replace HB := Aside0.mk (below_step (bel_later HB.out) hb); replace HX := Aside0.mk (blk_below (blk_later HX.out) hb); clear hb hg hbox)
      | ((with_reducible refine gate_dst (N := 7) rfl ?_); refine load_addr rfl (.tmp 6) rfl rfl HP.out HX.out ?_)
      | ((with_reducible refine gate_dst (N := 9) rfl ?_); refine load_addr rfl (.tmp 8) rfl rfl HQ.out HY.out ?_)
      | (go_at_call 76; refine (ref04_Compare p.a q.a HP.out HQ.out w3).mono ?_; rintro e w4 ⟨rfl, hb⟩; rw [HC.out]; have HX4 := Aside0.mk (blk_below HX.out hb); have HY4 := Aside0.mk (blk_below HY.out hb); have HB4 := Aside0.mk (below_step HB.out hb); have hn1 := (blk_cell HX4.out 17).trans (eP_n HP.out); have hn2 := (blk_cell HY4.out 17).trans (eP_n HQ.out); clear hb))
    (try go_quiet (fail))
    (try go_wp2)
    (try go_quiet (fail))
    (try go_wp2)
    go_ret
    exact ⟨by rw [HR.out]; first | done | rfl, by first | exact HB4.out | exact bel_later HB4.out⟩
/-- Are so many bytes from a place on all 0? -/
def zerB (l : List Int) : Nat → Nat → Bool
  | 0, _ => true
  | d + 1, i => byt l i == 0 && zerB l d (i + 1)
def fromA (f : Int) : Nat := if f = 0 then 0 else if f = 4 then 4 else 16
def famB (f : Int) : Bool := f == 0 || f == 4 || f == 6
def mayA (a : Ad) : Bool := zerB a.bs (16 - fromA a.fam) (fromA a.fam) && famB a.fam
theorem zerB_step (l : List Int) (i : Nat) (R : Bool) (hi : i < 16) (h1 : (byt l i == 0) = true) (h : zerB l (16 - i) i = R) : zerB l (16 - (i + 1)) (i + 1) = R := by
  rw [show 16 - i = 16 - (i + 1) + 1 by omega, zerB, h1, Bool.true_and] at h
  exact h
theorem zerB_no (l : List Int) (i : Nat) (hi : i < 16) (h1 : (byt l i == 0) = false) : zerB l (16 - i) i = false := by
  rw [show 16 - i = 16 - (i + 1) + 1 by omega, zerB, h1, Bool.false_and]
set_option maxHeartbeats 4000000 in
set_option maxRecDepth 100000 in
theorem ref04_May (a : Ad) (ha : a.ok) (w : World) : Calls Tryz.prog 74 #[.agg (eA a)] w fun e w' => e = .returned (.bool (mayA a)) ∧ Below w.heap.size w w' := by
  have HB := Aside0.mk (Below.refl w.heap.size w)
  have HA := Aside0.mk ha
  clear ha
  cases h4 : (a.fam == 4)
  · cases hz : (a.fam == 0)
    · cases h6 : (a.fam == 6)
      · skip
        have c1b0 : (a.fam == 4) = false := h4
        have c2b0 : (a.fam == 0) = false := hz
        have c3b0 : (a.fam == 6) = false := h6
        have HF := Aside0.mk (show fromA a.fam = 16 by unfold fromA; simp_all)
        have HM := Aside0.mk (show mayA a = (zerB a.bs (16 - 16) 16 && false) by unfold mayA famB; rw [HF.out, h4, hz, h6]; rfl)
        clear h4 hz h6
        go_enter Tryz.func74, Tryz.ntmps74
        go_wp2_with (((with_reducible refine gate_dst (N := 1) rfl ?_); refine box_event ?hg (N := 1) ?hd (cs := eA a) (t := 30) ?hr ?_; (case hd => rfl); (case hg => rfl); (case hr => first | (go_simp; done) | (go_simp; rfl)); intro g1 hg w1 hbox hb; have HX := Aside0.mk hbox; replace HB := Aside0.mk (below_step (bel_later HB.out) hb); have h0 := (blk_cell HX.out 0).trans (eA_fam a); clear hb hg hbox))
        go_loopw [4] (fun v4 wr => ∃ i : Nat, v4 = .int .i64 (i : Int) ∧ Aside0 (i ≤ 16) ∧ Aside0 (zerB a.bs (16 - i) i = zerB a.bs (16 - 16) 16) ∧ Aside0 (wr.heap[g1]? = some (.cells (eA a) 30 (0, 0)) ∧ Below w.heap.size w wr)) (fun v4 _ => 16 - (intOf v4).toNat)
        case atStart => exact ⟨16, rfl, ⟨by omega⟩, ⟨rfl⟩, ⟨HX.out, HB.out⟩⟩
        case round =>
          obtain ⟨i, rfl, HI, HC, HE⟩ := hrel
          clear HX HB h0
          by_cases hlt : i < 16
          · have c4b0 : decide ((i : Int) < 16) = true := decide_eq_true (by omega)
            have c4b1 : decide (i < 16) = true := decide_eq_true hlt
            have c4b2 : (0 : Int) ≤ (i : Int) := Int.natCast_nonneg i
            have c4b3 : (i : Int) < 16 := by omega
            have hx := (blk_cell HE.out.1 (1 + i)).trans (eA_byte HA.out i hlt)
            have e4 : wrap64 ((i : Int) + 1) = ((i + 1 : Nat) : Int) := wrap_sm1 i (by omega)
            have HE4 := Aside0.mk e4
            have HLT := Aside0.mk hlt
            clear hlt
            cases h1 : (byt a.bs i == 0)
            · have c5b1 : (byt a.bs i != 0) = true := by rw [bne, h1]; rfl
              have HR := Aside0.mk (show mayA a = false by rw [HM.out, ← HC.out, zerB_no a.bs i HLT.out h1]; rfl)
              go_wp2
              (try go_quiet (fail))
              (try go_wp2)
              go_ret
              exact ⟨by rw [HR.out]; first | done | rfl, by first | exact HE.out.2 | exact bel_later HE.out.2⟩
            · have c5b1 : (byt a.bs i != 0) = false := by rw [bne, h1]; rfl
              have HC2 := Aside0.mk (zerB_step a.bs i _ HLT.out h1 HC.out)
              go_wp2
              (try go_quiet (fail))
              (try go_wp2)
              go_roundw
              case rel => exact ⟨i + 1, (by first | rfl | exact congrArg (Value.int .i64) HE4.out), ⟨HLT.out⟩, HC2, ⟨blk_later HE.out.1, bel_later HE.out.2⟩⟩
              case measure => exact measureA 16 i _ (by first | rfl | exact HE4.out) HLT.out
          · have hi5 : i = 16 := by have := HI.out; omega
            subst hi5
            have h0 := (blk_cell HE.out.1 0).trans (eA_fam a)
            have HR := Aside0.mk (show mayA a = false by rw [HM.out, ← HC.out]; rfl)
            clear hlt
            go_wp2
            (try go_quiet (fail))
            (try go_wp2)
            go_ret
            exact ⟨by rw [HR.out]; first | done | rfl, by first | exact HE.out.2 | exact bel_later HE.out.2⟩
      · skip
        have c1b0 : (a.fam == 4) = false := h4
        have c2b0 : (a.fam == 0) = false := hz
        have c3b0 : (a.fam == 6) = true := h6
        have HF := Aside0.mk (show fromA a.fam = 16 by unfold fromA; simp_all)
        have HM := Aside0.mk (show mayA a = (zerB a.bs (16 - 16) 16 && true) by unfold mayA famB; rw [HF.out, h4, hz, h6]; rfl)
        clear h4 hz h6
        go_enter Tryz.func74, Tryz.ntmps74
        go_wp2_with (((with_reducible refine gate_dst (N := 1) rfl ?_); refine box_event ?hg (N := 1) ?hd (cs := eA a) (t := 30) ?hr ?_; (case hd => rfl); (case hg => rfl); (case hr => first | (go_simp; done) | (go_simp; rfl)); intro g1 hg w1 hbox hb; have HX := Aside0.mk hbox; replace HB := Aside0.mk (below_step (bel_later HB.out) hb); have h0 := (blk_cell HX.out 0).trans (eA_fam a); clear hb hg hbox))
        go_loopw [4] (fun v4 wr => ∃ i : Nat, v4 = .int .i64 (i : Int) ∧ Aside0 (i ≤ 16) ∧ Aside0 (zerB a.bs (16 - i) i = zerB a.bs (16 - 16) 16) ∧ Aside0 (wr.heap[g1]? = some (.cells (eA a) 30 (0, 0)) ∧ Below w.heap.size w wr)) (fun v4 _ => 16 - (intOf v4).toNat)
        case atStart => exact ⟨16, rfl, ⟨by omega⟩, ⟨rfl⟩, ⟨HX.out, HB.out⟩⟩
        case round =>
          obtain ⟨i, rfl, HI, HC, HE⟩ := hrel
          clear HX HB h0
          by_cases hlt : i < 16
          · have c4b0 : decide ((i : Int) < 16) = true := decide_eq_true (by omega)
            have c4b1 : decide (i < 16) = true := decide_eq_true hlt
            have c4b2 : (0 : Int) ≤ (i : Int) := Int.natCast_nonneg i
            have c4b3 : (i : Int) < 16 := by omega
            have hx := (blk_cell HE.out.1 (1 + i)).trans (eA_byte HA.out i hlt)
            have e4 : wrap64 ((i : Int) + 1) = ((i + 1 : Nat) : Int) := wrap_sm1 i (by omega)
            have HE4 := Aside0.mk e4
            have HLT := Aside0.mk hlt
            clear hlt
            cases h1 : (byt a.bs i == 0)
            · have c5b1 : (byt a.bs i != 0) = true := by rw [bne, h1]; rfl
              have HR := Aside0.mk (show mayA a = false by rw [HM.out, ← HC.out, zerB_no a.bs i HLT.out h1]; rfl)
              go_wp2
              (try go_quiet (fail))
              (try go_wp2)
              go_ret
              exact ⟨by rw [HR.out]; first | done | rfl, by first | exact HE.out.2 | exact bel_later HE.out.2⟩
            · have c5b1 : (byt a.bs i != 0) = false := by rw [bne, h1]; rfl
              have HC2 := Aside0.mk (zerB_step a.bs i _ HLT.out h1 HC.out)
              go_wp2
              (try go_quiet (fail))
              (try go_wp2)
              go_roundw
              case rel => exact ⟨i + 1, (by first | rfl | exact congrArg (Value.int .i64) HE4.out), ⟨HLT.out⟩, HC2, ⟨blk_later HE.out.1, bel_later HE.out.2⟩⟩
              case measure => exact measureA 16 i _ (by first | rfl | exact HE4.out) HLT.out
          · have hi5 : i = 16 := by have := HI.out; omega
            subst hi5
            have h0 := (blk_cell HE.out.1 0).trans (eA_fam a)
            have HR := Aside0.mk (show mayA a = true by rw [HM.out, ← HC.out]; rfl)
            clear hlt
            go_wp2
            (try go_quiet (fail))
            (try go_wp2)
            go_ret
            exact ⟨by rw [HR.out]; first | done | rfl, by first | exact HE.out.2 | exact bel_later HE.out.2⟩
    · have h6 : (a.fam == 6) = false := by simp_all
      have c1b0 : (a.fam == 4) = false := h4
      have c2b0 : (a.fam == 0) = true := hz
      have c3b0 : (a.fam == 6) = false := h6
      have HF := Aside0.mk (show fromA a.fam = 0 by unfold fromA; simp_all)
      have HM := Aside0.mk (show mayA a = (zerB a.bs (16 - 0) 0 && true) by unfold mayA famB; rw [HF.out, h4, hz, h6]; rfl)
      clear h4 hz h6
      go_enter Tryz.func74, Tryz.ntmps74
      go_wp2_with (((with_reducible refine gate_dst (N := 1) rfl ?_); refine box_event ?hg (N := 1) ?hd (cs := eA a) (t := 30) ?hr ?_; (case hd => rfl); (case hg => rfl); (case hr => first | (go_simp; done) | (go_simp; rfl)); intro g1 hg w1 hbox hb; have HX := Aside0.mk hbox; replace HB := Aside0.mk (below_step (bel_later HB.out) hb); have h0 := (blk_cell HX.out 0).trans (eA_fam a); clear hb hg hbox))
      go_loopw [4] (fun v4 wr => ∃ i : Nat, v4 = .int .i64 (i : Int) ∧ Aside0 (i ≤ 16) ∧ Aside0 (zerB a.bs (16 - i) i = zerB a.bs (16 - 0) 0) ∧ Aside0 (wr.heap[g1]? = some (.cells (eA a) 30 (0, 0)) ∧ Below w.heap.size w wr)) (fun v4 _ => 16 - (intOf v4).toNat)
      case atStart => exact ⟨0, rfl, ⟨by omega⟩, ⟨rfl⟩, ⟨HX.out, HB.out⟩⟩
      case round =>
        obtain ⟨i, rfl, HI, HC, HE⟩ := hrel
        clear HX HB h0
        by_cases hlt : i < 16
        · have c4b0 : decide ((i : Int) < 16) = true := decide_eq_true (by omega)
          have c4b1 : decide (i < 16) = true := decide_eq_true hlt
          have c4b2 : (0 : Int) ≤ (i : Int) := Int.natCast_nonneg i
          have c4b3 : (i : Int) < 16 := by omega
          have hx := (blk_cell HE.out.1 (1 + i)).trans (eA_byte HA.out i hlt)
          have e4 : wrap64 ((i : Int) + 1) = ((i + 1 : Nat) : Int) := wrap_sm1 i (by omega)
          have HE4 := Aside0.mk e4
          have HLT := Aside0.mk hlt
          clear hlt
          cases h1 : (byt a.bs i == 0)
          · have c5b1 : (byt a.bs i != 0) = true := by rw [bne, h1]; rfl
            have HR := Aside0.mk (show mayA a = false by rw [HM.out, ← HC.out, zerB_no a.bs i HLT.out h1]; rfl)
            go_wp2
            (try go_quiet (fail))
            (try go_wp2)
            go_ret
            exact ⟨by rw [HR.out]; first | done | rfl, by first | exact HE.out.2 | exact bel_later HE.out.2⟩
          · have c5b1 : (byt a.bs i != 0) = false := by rw [bne, h1]; rfl
            have HC2 := Aside0.mk (zerB_step a.bs i _ HLT.out h1 HC.out)
            go_wp2
            (try go_quiet (fail))
            (try go_wp2)
            go_roundw
            case rel => exact ⟨i + 1, (by first | rfl | exact congrArg (Value.int .i64) HE4.out), ⟨HLT.out⟩, HC2, ⟨blk_later HE.out.1, bel_later HE.out.2⟩⟩
            case measure => exact measureA 16 i _ (by first | rfl | exact HE4.out) HLT.out
        · have hi5 : i = 16 := by have := HI.out; omega
          subst hi5
          have h0 := (blk_cell HE.out.1 0).trans (eA_fam a)
          have HR := Aside0.mk (show mayA a = true by rw [HM.out, ← HC.out]; rfl)
          clear hlt
          go_wp2
          (try go_quiet (fail))
          (try go_wp2)
          go_ret
          exact ⟨by rw [HR.out]; first | done | rfl, by first | exact HE.out.2 | exact bel_later HE.out.2⟩
  · have hz : (a.fam == 0) = false := by simp_all
    have h6 : (a.fam == 6) = false := by simp_all
    have c1b0 : (a.fam == 4) = true := h4
    have c2b0 : (a.fam == 0) = false := hz
    have c3b0 : (a.fam == 6) = false := h6
    have HF := Aside0.mk (show fromA a.fam = 4 by unfold fromA; simp_all)
    have HM := Aside0.mk (show mayA a = (zerB a.bs (16 - 4) 4 && true) by unfold mayA famB; rw [HF.out, h4, hz, h6]; rfl)
    clear h4 hz h6
    go_enter Tryz.func74, Tryz.ntmps74
    go_wp2_with (((with_reducible refine gate_dst (N := 1) rfl ?_); refine box_event ?hg (N := 1) ?hd (cs := eA a) (t := 30) ?hr ?_; (case hd => rfl); (case hg => rfl); (case hr => first | (go_simp; done) | (go_simp; rfl)); intro g1 hg w1 hbox hb; have HX := Aside0.mk hbox; replace HB := Aside0.mk (below_step (bel_later HB.out) hb); have h0 := (blk_cell HX.out 0).trans (eA_fam a); clear hb hg hbox))
    go_loopw [4] (fun v4 wr => ∃ i : Nat, v4 = .int .i64 (i : Int) ∧ Aside0 (i ≤ 16) ∧ Aside0 (zerB a.bs (16 - i) i = zerB a.bs (16 - 4) 4) ∧ Aside0 (wr.heap[g1]? = some (.cells (eA a) 30 (0, 0)) ∧ Below w.heap.size w wr)) (fun v4 _ => 16 - (intOf v4).toNat)
    case atStart => exact ⟨4, rfl, ⟨by omega⟩, ⟨rfl⟩, ⟨HX.out, HB.out⟩⟩
    case round =>
      obtain ⟨i, rfl, HI, HC, HE⟩ := hrel
      clear HX HB h0
      by_cases hlt : i < 16
      · have c4b0 : decide ((i : Int) < 16) = true := decide_eq_true (by omega)
        have c4b1 : decide (i < 16) = true := decide_eq_true hlt
        have c4b2 : (0 : Int) ≤ (i : Int) := Int.natCast_nonneg i
        have c4b3 : (i : Int) < 16 := by omega
        have hx := (blk_cell HE.out.1 (1 + i)).trans (eA_byte HA.out i hlt)
        have e4 : wrap64 ((i : Int) + 1) = ((i + 1 : Nat) : Int) := wrap_sm1 i (by omega)
        have HE4 := Aside0.mk e4
        have HLT := Aside0.mk hlt
        clear hlt
        cases h1 : (byt a.bs i == 0)
        · have c5b1 : (byt a.bs i != 0) = true := by rw [bne, h1]; rfl
          have HR := Aside0.mk (show mayA a = false by rw [HM.out, ← HC.out, zerB_no a.bs i HLT.out h1]; rfl)
          go_wp2
          (try go_quiet (fail))
          (try go_wp2)
          go_ret
          exact ⟨by rw [HR.out]; first | done | rfl, by first | exact HE.out.2 | exact bel_later HE.out.2⟩
        · have c5b1 : (byt a.bs i != 0) = false := by rw [bne, h1]; rfl
          have HC2 := Aside0.mk (zerB_step a.bs i _ HLT.out h1 HC.out)
          go_wp2
          (try go_quiet (fail))
          (try go_wp2)
          go_roundw
          case rel => exact ⟨i + 1, (by first | rfl | exact congrArg (Value.int .i64) HE4.out), ⟨HLT.out⟩, HC2, ⟨blk_later HE.out.1, bel_later HE.out.2⟩⟩
          case measure => exact measureA 16 i _ (by first | rfl | exact HE4.out) HLT.out
      · have hi5 : i = 16 := by have := HI.out; omega
        subst hi5
        have h0 := (blk_cell HE.out.1 0).trans (eA_fam a)
        have HR := Aside0.mk (show mayA a = true by rw [HM.out, ← HC.out]; rfl)
        clear hlt
        go_wp2
        (try go_quiet (fail))
        (try go_wp2)
        go_ret
        exact ⟨by rw [HR.out]; first | done | rfl, by first | exact HE.out.2 | exact bel_later HE.out.2⟩
def mayPP (p : Pf) : Prop := mayA p.a = true ∧ p.a.fam ≠ 0 ∧ 0 ≤ p.n ∧ p.n ≤ bitsOf p.a.fam ∧ ∀ j : Nat, p.n ≤ (j : Int) → (j : Int) < bitsOf p.a.fam → bitA p.a j = 0
def mayP (p : Pf) : Bool := mayA p.a && decide (p.a.fam ≠ 0) && decide (0 ≤ p.n) && decide (p.n ≤ bitsOf p.a.fam) && (List.range (bitsOf p.a.fam).toNat).all fun j => decide (p.n ≤ (j : Int) → bitA p.a j = 0)
theorem mayP_iff (p : Pf) : mayP p = true ↔ mayPP p := by
  unfold mayP mayPP
  simp only [Bool.and_eq_true, decide_eq_true_eq, List.all_eq_true, List.mem_range]
  constructor
  · rintro ⟨⟨⟨⟨h1, h2⟩, h3⟩, h4⟩, h5⟩
    exact ⟨h1, h2, h3, h4, fun j a b => h5 j (by omega) a⟩
  · rintro ⟨h1, h2, h3, h4, h5⟩
    exact ⟨⟨⟨⟨h1, h2⟩, h3⟩, h4⟩, fun j a b => h5 j b (by omega)⟩
theorem mayP_no {p : Pf} (h : ¬ mayPP p) : mayP p = false := by
  cases hb : mayP p
  · rfl
  · exact absurd ((mayP_iff p).1 hb) h
section
variable {P : Program} {ops : Array Oper} {Q : Exit → Act → World → Prop} {md : Region.Mode} {S : World → Prop}
/-- From a region on: the world behind the draw as a letter ('generalize' of the draw does not end). -/
theorem anyH_world {fuel : Nat} {listed : Array Bool} {a : Act} {w : World} (hs : S w) (h : ∀ w' : World, S w' → wpAnyH P md ops Q S fuel listed a w') : wpAnyH P md ops Q S fuel listed a w := h w hs
end
set_option maxHeartbeats 2000000 in
set_option maxRecDepth 100000 in
theorem ref05_May (p : Pf) (hp : p.a.ok) (w : World) : Calls Tryz.prog 43 #[.agg (eP p)] w fun e w' => e = .returned (.bool (mayP p)) ∧ Below w.heap.size w w' := by
  have HB := Aside0.mk (Below.refl w.heap.size w)
  have HP := Aside0.mk hp
  clear hp
  cases hm : mayA p.a
  · have HM := Aside0.mk hm
    have HR := Aside0.mk (mayP_no (p := p) (fun h => by rw [h.1] at hm; cases hm))
    clear hm
    go_enter Tryz.func43, Tryz.ntmps43
    go_wp2_with (first
      | ((with_reducible refine gate_dst (N := 1) rfl ?_); refine box_event ?hg (N := 1) ?hd (cs := eP p) (t := 42) ?hr ?_; (case hd => rfl); (case hg => rfl); (case hr => first | (go_simp; done) | (go_simp; rfl)); intro g1 hg w1 hbox hb; have HX := Aside0.mk hbox; replace HB := Aside0.mk (below_step (bel_later HB.out) hb); clear hb hg hbox)
      | ((with_reducible refine gate_dst (N := 6) rfl ?_); refine load_addr rfl (.tmp 5) rfl rfl HP.out HX.out ?_)
      | (go_at_call 74; refine (ref04_May p.a HP.out w1).mono ?_; rintro e w2 ⟨rfl, hb⟩; rw [HM.out]; have HX2 := Aside0.mk (blk_below HX.out hb); have HB2 := Aside0.mk (below_step HB.out hb); have hn := (blk_cell HX2.out 17).trans (eP_n HP.out); have h0 := (blk_cell HX2.out 0).trans (eP_fam p); clear hb))
    go_quiet (fail)
    go_wp2
    go_ret
    exact ⟨by rw [HR.out]; first | done | rfl, bel_later HB2.out⟩
  · have HM := Aside0.mk hm
    by_cases h0 : p.a.fam = 0
    · have c1b0 : (p.a.fam == 0) = true := by simpa using h0
      have HR := Aside0.mk (mayP_no (p := p) (fun h => h.2.1 h0))
      clear hm h0
      go_enter Tryz.func43, Tryz.ntmps43
      go_wp2_with (first
        | ((with_reducible refine gate_dst (N := 1) rfl ?_); refine box_event ?hg (N := 1) ?hd (cs := eP p) (t := 42) ?hr ?_; (case hd => rfl); (case hg => rfl); (case hr => first | (go_simp; done) | (go_simp; rfl)); intro g1 hg w1 hbox hb; have HX := Aside0.mk hbox; replace HB := Aside0.mk (below_step (bel_later HB.out) hb); clear hb hg hbox)
        | ((with_reducible refine gate_dst (N := 6) rfl ?_); refine load_addr rfl (.tmp 5) rfl rfl HP.out HX.out ?_)
        | (go_at_call 74; refine (ref04_May p.a HP.out w1).mono ?_; rintro e w2 ⟨rfl, hb⟩; rw [HM.out]; have HX2 := Aside0.mk (blk_below HX.out hb); have HB2 := Aside0.mk (below_step HB.out hb); have hn := (blk_cell HX2.out 17).trans (eP_n HP.out); have h0 := (blk_cell HX2.out 0).trans (eP_fam p); clear hb))
      go_quiet (fail)
      go_wp2
      go_ret
      exact ⟨by rw [HR.out]; first | done | rfl, bel_later HB2.out⟩
    · have c1b0 : (p.a.fam == 0) = false := by simpa using h0
      have H0 := Aside0.mk h0
      clear h0
      by_cases h1 : p.n < 0
      · have c2b0 : decide (p.n < 0) = true := decide_eq_true h1
        have HR := Aside0.mk (mayP_no (p := p) (fun h => by have := h.2.2.1; omega))
        clear hm h1
        go_enter Tryz.func43, Tryz.ntmps43
        go_wp2_with (first
          | ((with_reducible refine gate_dst (N := 1) rfl ?_); refine box_event ?hg (N := 1) ?hd (cs := eP p) (t := 42) ?hr ?_; (case hd => rfl); (case hg => rfl); (case hr => first | (go_simp; done) | (go_simp; rfl)); intro g1 hg w1 hbox hb; have HX := Aside0.mk hbox; replace HB := Aside0.mk (below_step (bel_later HB.out) hb); clear hb hg hbox)
          | ((with_reducible refine gate_dst (N := 6) rfl ?_); refine load_addr rfl (.tmp 5) rfl rfl HP.out HX.out ?_)
          | (go_at_call 74; refine (ref04_May p.a HP.out w1).mono ?_; rintro e w2 ⟨rfl, hb⟩; rw [HM.out]; have HX2 := Aside0.mk (blk_below HX.out hb); have HB2 := Aside0.mk (below_step HB.out hb); have hn := (blk_cell HX2.out 17).trans (eP_n HP.out); have h0 := (blk_cell HX2.out 0).trans (eP_fam p); clear hb))
        go_quiet (fail)
        go_wp2
        go_ret
        exact ⟨by rw [HR.out]; first | done | rfl, bel_later HB2.out⟩
      · have c2b0 : decide (p.n < 0) = false := decide_eq_false h1
        by_cases h2 : bitsOf p.a.fam < p.n
        · have c3b0 : decide (bitsOf p.a.fam < p.n) = true := decide_eq_true h2
          have HR := Aside0.mk (mayP_no (p := p) (fun h => by have := h.2.2.2.1; omega))
          clear hm h1 h2
          go_enter Tryz.func43, Tryz.ntmps43
          go_wp2_with (first
            | ((with_reducible refine gate_dst (N := 1) rfl ?_); refine box_event ?hg (N := 1) ?hd (cs := eP p) (t := 42) ?hr ?_; (case hd => rfl); (case hg => rfl); (case hr => first | (go_simp; done) | (go_simp; rfl)); intro g1 hg w1 hbox hb; have HX := Aside0.mk hbox; replace HB := Aside0.mk (below_step (bel_later HB.out) hb); clear hb hg hbox)
            | ((with_reducible refine gate_dst (N := 6) rfl ?_); refine load_addr rfl (.tmp 5) rfl rfl HP.out HX.out ?_)
            | (go_at_call 74; refine (ref04_May p.a HP.out w1).mono ?_; rintro e w2 ⟨rfl, hb⟩; rw [HM.out]; have HX2 := Aside0.mk (blk_below HX.out hb); have HB2 := Aside0.mk (below_step HB.out hb); have hn := (blk_cell HX2.out 17).trans (eP_n HP.out); have h0 := (blk_cell HX2.out 0).trans (eP_fam p); clear hb))
          obtain ⟨S, hS⟩ : ∃ S : World → Prop, S = fun w' => w'.heap[g1]? = some (.cells (eP p) 42 (0, 0)) ∧ Below w.heap.size w w' := ⟨_, rfl⟩
          have HSt := Aside0.mk (show ∀ a b : World, S a → Below a.heap.size a b → S b by
            intro a b h hb
            rw [hS] at h ⊢
            exact ⟨blk_below h.1 hb, below_step h.2 hb⟩)
          have HSx := Aside0.mk (show ∀ b : World, S b → b.heap[g1]? = some (.cells (eP p) 42 (0, 0)) ∧ Below w.heap.size w b by
            intro b h
            rw [hS] at h
            exact h)
          have s0 : S w2.drew := by rw [hS]; exact ⟨blk_later HX2.out, bel_later HB2.out⟩
          clear hS hn h0
          refine wp_region_held_drew (S := S) (by kernel_rfl) s0 (fun _ => ?_)
          refine anyH_world s0 (fun w5 s5 => ?_)
          clear s0
          have s0 := s5
          clear s5
          refine wpAnyH_take (i := 0) (v := .bool true) rfl (by kernel_rfl) (by kernel_rfl) (by kernel_rfl) (fun _ _ _ h => h) (Or.inl ⟨by kernel_rfl, fun w' h => by first | (go_simp; done) | (go_simp; rfl)⟩) s0 ?_
          (try simp only [Act.put, List.setIfInBounds_toArray, List.set_cons_zero, List.set_cons_succ])
          refine wpAnyH_take (i := 1) (v := .bool false) rfl (by kernel_rfl) (by kernel_rfl) (by kernel_rfl) (fun _ _ _ h => h) (Or.inl ⟨by kernel_rfl, fun w' h => by first | (go_simp; done) | (go_simp; rfl)⟩) s0 ?_
          (try simp only [Act.put, List.setIfInBounds_toArray, List.set_cons_zero, List.set_cons_succ])
          refine wpAnyH_take (i := 2) (v := .bool false) rfl (by kernel_rfl) (by kernel_rfl) (by kernel_rfl) (fun _ _ _ h => h) (Or.inl ⟨by kernel_rfl, fun w' h => by first | (go_simp; done) | (go_simp; rfl)⟩) s0 ?_
          (try simp only [Act.put, List.setIfInBounds_toArray, List.set_cons_zero, List.set_cons_succ])
          refine wpAnyH_take (i := 3) (v := .pointer (some ⟨g1, 0, none⟩)) rfl (by kernel_rfl) (by kernel_rfl) (by kernel_rfl) (fun _ _ _ h => h) (Or.inl ⟨by kernel_rfl, fun w' h => by first | (go_simp; done) | (go_simp; rfl)⟩) s0 ?_
          (try simp only [Act.put, List.setIfInBounds_toArray, List.set_cons_zero, List.set_cons_succ])
          refine wpAnyH_take (i := 4) (v := .pointer (some ⟨g1, 0, none⟩)) rfl (by kernel_rfl) (by kernel_rfl) (by kernel_rfl) (fun _ _ _ h => h) (Or.inl ⟨by kernel_rfl, fun w' h => by first | (go_simp; done) | (go_simp; rfl)⟩) s0 ?_
          (try simp only [Act.put, List.setIfInBounds_toArray, List.set_cons_zero, List.set_cons_succ])
          refine wpAnyH_take (i := 5) (v := .int .i64 p.a.fam) rfl (by kernel_rfl) (by kernel_rfl) (by kernel_rfl) (fun _ _ _ h => h) (Or.inl ⟨by kernel_rfl, fun w' h => by have hf := (blk_cell (HSx.out w' h).1 0).trans (eP_fam p); go_simp⟩) s0 ?_
          (try simp only [Act.put, List.setIfInBounds_toArray, List.set_cons_zero, List.set_cons_succ])
          refine wpAnyH_take (i := 6) (v := .bool false) rfl (by kernel_rfl) (by kernel_rfl) (by kernel_rfl) (fun _ _ _ h => h) (Or.inl ⟨by kernel_rfl, fun w' h => by first | (go_simp; done) | (go_simp; rfl)⟩) s0 ?_
          (try simp only [Act.put, List.setIfInBounds_toArray, List.set_cons_zero, List.set_cons_succ])
          refine wpAnyH_take (i := 7) (v := .bool false) rfl (by kernel_rfl) (by kernel_rfl) (by kernel_rfl) (fun _ _ _ h => h) (Or.inl ⟨by kernel_rfl, fun w' h => by first | (go_simp; done) | (go_simp; rfl)⟩) s0 ?_
          (try simp only [Act.put, List.setIfInBounds_toArray, List.set_cons_zero, List.set_cons_succ])
          refine wpAnyH_take (i := 8) (v := .bool false) rfl (by kernel_rfl) (by kernel_rfl) (by kernel_rfl) (fun _ _ _ h => h) (Or.inl ⟨by kernel_rfl, fun w' h => by first | (go_simp; done) | (go_simp; rfl)⟩) s0 ?_
          (try simp only [Act.put, List.setIfInBounds_toArray, List.set_cons_zero, List.set_cons_succ])
          refine wpAnyH_take (i := 9) (v := .pointer (some ⟨g1, 17, none⟩)) rfl (by kernel_rfl) (by kernel_rfl) (by kernel_rfl) (fun _ _ _ h => h) (Or.inl ⟨by kernel_rfl, fun w' h => by first | (go_simp; done) | (go_simp; rfl)⟩) s0 ?_
          (try simp only [Act.put, List.setIfInBounds_toArray, List.set_cons_zero, List.set_cons_succ])
          refine wpAnyH_take (i := 10) (v := .int .i64 p.n) rfl (by kernel_rfl) (by kernel_rfl) (by kernel_rfl) (fun _ _ _ h => h) (Or.inl ⟨by kernel_rfl, fun w' h => by have hf := (blk_cell (HSx.out w' h).1 17).trans (eP_n HP.out); go_simp⟩) s0 ?_
          (try simp only [Act.put, List.setIfInBounds_toArray, List.set_cons_zero, List.set_cons_succ])
          refine wpAnyH_take (i := 11) (v := .bool false) rfl (by kernel_rfl) (by kernel_rfl) (by kernel_rfl) (fun _ _ _ h => h) (Or.inl ⟨by kernel_rfl, fun w' h => by first | (go_simp; done) | (go_simp; rfl)⟩) s0 ?_
          (try simp only [Act.put, List.setIfInBounds_toArray, List.set_cons_zero, List.set_cons_succ])
          refine wpAnyH_take (i := 12) (v := .bool false) rfl (by kernel_rfl) (by kernel_rfl) (by kernel_rfl) (fun _ _ _ h => h) (Or.inl ⟨by kernel_rfl, fun w' h => by first | (go_simp; done) | (go_simp; rfl)⟩) s0 ?_
          (try simp only [Act.put, List.setIfInBounds_toArray, List.set_cons_zero, List.set_cons_succ])
          refine wpAnyH_take (i := 13) (v := .bool false) rfl (by kernel_rfl) (by kernel_rfl) (by kernel_rfl) (fun _ _ _ h => h) (Or.inl ⟨by kernel_rfl, fun w' h => by first | (go_simp; done) | (go_simp; rfl)⟩) s0 ?_
          (try simp only [Act.put, List.setIfInBounds_toArray, List.set_cons_zero, List.set_cons_succ])
          refine wpAnyH_take (i := 14) (v := .pointer (some ⟨g1, 17, none⟩)) rfl (by kernel_rfl) (by kernel_rfl) (by kernel_rfl) (fun _ _ _ h => h) (Or.inl ⟨by kernel_rfl, fun w' h => by first | (go_simp; done) | (go_simp; rfl)⟩) s0 ?_
          (try simp only [Act.put, List.setIfInBounds_toArray, List.set_cons_zero, List.set_cons_succ])
          refine wpAnyH_take (i := 15) (v := .int .i64 p.n) rfl (by kernel_rfl) (by kernel_rfl) (by kernel_rfl) (fun _ _ _ h => h) (Or.inl ⟨by kernel_rfl, fun w' h => by have hf := (blk_cell (HSx.out w' h).1 17).trans (eP_n HP.out); go_simp⟩) s0 ?_
          (try simp only [Act.put, List.setIfInBounds_toArray, List.set_cons_zero, List.set_cons_succ])
          refine wpAnyH_take (i := 16) (v := .pointer (some ⟨g1, 0, none⟩)) rfl (by kernel_rfl) (by kernel_rfl) (by kernel_rfl) (fun _ _ _ h => h) (Or.inl ⟨by kernel_rfl, fun w' h => by first | (go_simp; done) | (go_simp; rfl)⟩) s0 ?_
          (try simp only [Act.put, List.setIfInBounds_toArray, List.set_cons_zero, List.set_cons_succ])
          refine wpAnyH_take (i := 17) (oi := { dst := some 25, op := .load 30 (.tmp 24), type := 30, pos := "ref.go:13", after := #[{ on := 16, ground := .data }, { on := 13, ground := .guard }], guard := some (13, false) }) (v := .agg (lA p.a).toArray) ?h1 ?h2 ?h3 ?h4 (fun _ _ _ h => h) ?h5 s0 ?h6
          case h1 => rfl
          case h2 => kernel_rfl
          case h3 => kernel_rfl
          case h4 => kernel_rfl
          case h5 =>
            refine yieldsIf_load_mid ?ka 30 (.tmp 24) ?kb g1 0 ?kc (lA p.a) _ ?kd Tryz.underlying30 ?ke (infoL HP.out)
            case ka => kernel_rfl
            case kb => kernel_rfl
            case kc => kernel_rfl
            case ke => kernel_rfl
            case kd => exact fun w' h => part_addr (HSx.out w' h).1
          (try simp only [Act.put, List.setIfInBounds_toArray, List.set_cons_zero, List.set_cons_succ])
          refine held_step (i := 18) (by kernel_rfl) rfl (by kernel_rfl) (fun K hK => ?_)
          go_wp2_with (go_at_call 75; refine (ref04_Bits p.a w5).mono ?_; rintro e w3 ⟨rfl, hb⟩; have s1 := HSt.out _ _ s0 hb; clear hb)
          refine hK.out _ _ s1 ?_
          clear hK K
          (try simp only [Act.put, List.setIfInBounds_toArray, List.set_cons_zero, List.set_cons_succ])
          refine held_step (i := 19) (by kernel_rfl) rfl (by kernel_rfl) (fun K hK => ?_)
          go_wp2
          refine hK.out _ _ s1 ?_
          clear hK K
          (try simp only [Act.put, List.setIfInBounds_toArray, List.set_cons_zero, List.set_cons_succ])
          refine held_step (i := 20) (by kernel_rfl) rfl (by kernel_rfl) (fun K hK => ?_)
          go_wp2
          refine hK.out _ _ s1 ?_
          clear hK K
          (try simp only [Act.put, List.setIfInBounds_toArray, List.set_cons_zero, List.set_cons_succ])
          refine wpAnyH_done (by kernel_rfl) ?_ _
          have HX3 := Aside0.mk (HSx.out _ s1).1
          have HB3 := Aside0.mk (HSx.out _ s1).2
          have hn3 := (blk_cell HX3.out 17).trans (eP_n HP.out)
          clear s0 s1
          go_wp2
          go_ret
          exact ⟨by rw [HR.out]; first | done | rfl, HB3.out⟩
        · have c3b0 : decide (bitsOf p.a.fam < p.n) = false := decide_eq_false h2
          have HG := Aside0.mk (show 0 ≤ p.n ∧ p.n ≤ bitsOf p.a.fam by omega)
          obtain ⟨m, hmn⟩ := Int.eq_ofNat_of_zero_le (show 0 ≤ p.n by omega)
          have HMN := Aside0.mk hmn
          clear hm h1 h2 hmn
          go_enter Tryz.func43, Tryz.ntmps43
          go_wp2_with (first
            | ((with_reducible refine gate_dst (N := 1) rfl ?_); refine box_event ?hg (N := 1) ?hd (cs := eP p) (t := 42) ?hr ?_; (case hd => rfl); (case hg => rfl); (case hr => first | (go_simp; done) | (go_simp; rfl)); intro g1 hg w1 hbox hb; have HX := Aside0.mk hbox; replace HB := Aside0.mk (below_step (bel_later HB.out) hb); clear hb hg hbox)
            | ((with_reducible refine gate_dst (N := 6) rfl ?_); refine load_addr rfl (.tmp 5) rfl rfl HP.out HX.out ?_)
            | (go_at_call 74; refine (ref04_May p.a HP.out w1).mono ?_; rintro e w2 ⟨rfl, hb⟩; rw [HM.out]; have HX2 := Aside0.mk (blk_below HX.out hb); have HB2 := Aside0.mk (below_step HB.out hb); have hn := (blk_cell HX2.out 17).trans (eP_n HP.out); have h0 := (blk_cell HX2.out 0).trans (eP_fam p); clear hb))
          obtain ⟨S, hS⟩ : ∃ S : World → Prop, S = fun w' => w'.heap[g1]? = some (.cells (eP p) 42 (0, 0)) ∧ Below w.heap.size w w' := ⟨_, rfl⟩
          have HSt := Aside0.mk (show ∀ a b : World, S a → Below a.heap.size a b → S b by
            intro a b h hb
            rw [hS] at h ⊢
            exact ⟨blk_below h.1 hb, below_step h.2 hb⟩)
          have HSx := Aside0.mk (show ∀ b : World, S b → b.heap[g1]? = some (.cells (eP p) 42 (0, 0)) ∧ Below w.heap.size w b by
            intro b h
            rw [hS] at h
            exact h)
          have s0 : S w2.drew := by rw [hS]; exact ⟨blk_later HX2.out, bel_later HB2.out⟩
          clear hS hn h0
          refine wp_region_held_drew (S := S) (by kernel_rfl) s0 (fun _ => ?_)
          refine anyH_world s0 (fun w5 s5 => ?_)
          clear s0
          have s0 := s5
          clear s5
          refine wpAnyH_take (i := 0) (v := .bool true) rfl (by kernel_rfl) (by kernel_rfl) (by kernel_rfl) (fun _ _ _ h => h) (Or.inl ⟨by kernel_rfl, fun w' h => by first | (go_simp; done) | (go_simp; rfl)⟩) s0 ?_
          (try simp only [Act.put, List.setIfInBounds_toArray, List.set_cons_zero, List.set_cons_succ])
          refine wpAnyH_take (i := 1) (v := .bool false) rfl (by kernel_rfl) (by kernel_rfl) (by kernel_rfl) (fun _ _ _ h => h) (Or.inl ⟨by kernel_rfl, fun w' h => by first | (go_simp; done) | (go_simp; rfl)⟩) s0 ?_
          (try simp only [Act.put, List.setIfInBounds_toArray, List.set_cons_zero, List.set_cons_succ])
          refine wpAnyH_take (i := 2) (v := .bool false) rfl (by kernel_rfl) (by kernel_rfl) (by kernel_rfl) (fun _ _ _ h => h) (Or.inl ⟨by kernel_rfl, fun w' h => by first | (go_simp; done) | (go_simp; rfl)⟩) s0 ?_
          (try simp only [Act.put, List.setIfInBounds_toArray, List.set_cons_zero, List.set_cons_succ])
          refine wpAnyH_take (i := 3) (v := .pointer (some ⟨g1, 0, none⟩)) rfl (by kernel_rfl) (by kernel_rfl) (by kernel_rfl) (fun _ _ _ h => h) (Or.inl ⟨by kernel_rfl, fun w' h => by first | (go_simp; done) | (go_simp; rfl)⟩) s0 ?_
          (try simp only [Act.put, List.setIfInBounds_toArray, List.set_cons_zero, List.set_cons_succ])
          refine wpAnyH_take (i := 4) (v := .pointer (some ⟨g1, 0, none⟩)) rfl (by kernel_rfl) (by kernel_rfl) (by kernel_rfl) (fun _ _ _ h => h) (Or.inl ⟨by kernel_rfl, fun w' h => by first | (go_simp; done) | (go_simp; rfl)⟩) s0 ?_
          (try simp only [Act.put, List.setIfInBounds_toArray, List.set_cons_zero, List.set_cons_succ])
          refine wpAnyH_take (i := 5) (v := .int .i64 p.a.fam) rfl (by kernel_rfl) (by kernel_rfl) (by kernel_rfl) (fun _ _ _ h => h) (Or.inl ⟨by kernel_rfl, fun w' h => by have hf := (blk_cell (HSx.out w' h).1 0).trans (eP_fam p); go_simp⟩) s0 ?_
          (try simp only [Act.put, List.setIfInBounds_toArray, List.set_cons_zero, List.set_cons_succ])
          refine wpAnyH_take (i := 6) (v := .bool false) rfl (by kernel_rfl) (by kernel_rfl) (by kernel_rfl) (fun _ _ _ h => h) (Or.inl ⟨by kernel_rfl, fun w' h => by first | (go_simp; done) | (go_simp; rfl)⟩) s0 ?_
          (try simp only [Act.put, List.setIfInBounds_toArray, List.set_cons_zero, List.set_cons_succ])
          refine wpAnyH_take (i := 7) (v := .bool false) rfl (by kernel_rfl) (by kernel_rfl) (by kernel_rfl) (fun _ _ _ h => h) (Or.inl ⟨by kernel_rfl, fun w' h => by first | (go_simp; done) | (go_simp; rfl)⟩) s0 ?_
          (try simp only [Act.put, List.setIfInBounds_toArray, List.set_cons_zero, List.set_cons_succ])
          refine wpAnyH_take (i := 8) (v := .bool false) rfl (by kernel_rfl) (by kernel_rfl) (by kernel_rfl) (fun _ _ _ h => h) (Or.inl ⟨by kernel_rfl, fun w' h => by first | (go_simp; done) | (go_simp; rfl)⟩) s0 ?_
          (try simp only [Act.put, List.setIfInBounds_toArray, List.set_cons_zero, List.set_cons_succ])
          refine wpAnyH_take (i := 9) (v := .pointer (some ⟨g1, 17, none⟩)) rfl (by kernel_rfl) (by kernel_rfl) (by kernel_rfl) (fun _ _ _ h => h) (Or.inl ⟨by kernel_rfl, fun w' h => by first | (go_simp; done) | (go_simp; rfl)⟩) s0 ?_
          (try simp only [Act.put, List.setIfInBounds_toArray, List.set_cons_zero, List.set_cons_succ])
          refine wpAnyH_take (i := 10) (v := .int .i64 p.n) rfl (by kernel_rfl) (by kernel_rfl) (by kernel_rfl) (fun _ _ _ h => h) (Or.inl ⟨by kernel_rfl, fun w' h => by have hf := (blk_cell (HSx.out w' h).1 17).trans (eP_n HP.out); go_simp⟩) s0 ?_
          (try simp only [Act.put, List.setIfInBounds_toArray, List.set_cons_zero, List.set_cons_succ])
          refine wpAnyH_take (i := 11) (v := .bool false) rfl (by kernel_rfl) (by kernel_rfl) (by kernel_rfl) (fun _ _ _ h => h) (Or.inl ⟨by kernel_rfl, fun w' h => by first | (go_simp; done) | (go_simp; rfl)⟩) s0 ?_
          (try simp only [Act.put, List.setIfInBounds_toArray, List.set_cons_zero, List.set_cons_succ])
          refine wpAnyH_take (i := 12) (v := .bool false) rfl (by kernel_rfl) (by kernel_rfl) (by kernel_rfl) (fun _ _ _ h => h) (Or.inl ⟨by kernel_rfl, fun w' h => by first | (go_simp; done) | (go_simp; rfl)⟩) s0 ?_
          (try simp only [Act.put, List.setIfInBounds_toArray, List.set_cons_zero, List.set_cons_succ])
          refine wpAnyH_take (i := 13) (v := .bool false) rfl (by kernel_rfl) (by kernel_rfl) (by kernel_rfl) (fun _ _ _ h => h) (Or.inl ⟨by kernel_rfl, fun w' h => by first | (go_simp; done) | (go_simp; rfl)⟩) s0 ?_
          (try simp only [Act.put, List.setIfInBounds_toArray, List.set_cons_zero, List.set_cons_succ])
          refine wpAnyH_take (i := 14) (v := .pointer (some ⟨g1, 17, none⟩)) rfl (by kernel_rfl) (by kernel_rfl) (by kernel_rfl) (fun _ _ _ h => h) (Or.inl ⟨by kernel_rfl, fun w' h => by first | (go_simp; done) | (go_simp; rfl)⟩) s0 ?_
          (try simp only [Act.put, List.setIfInBounds_toArray, List.set_cons_zero, List.set_cons_succ])
          refine wpAnyH_take (i := 15) (v := .int .i64 p.n) rfl (by kernel_rfl) (by kernel_rfl) (by kernel_rfl) (fun _ _ _ h => h) (Or.inl ⟨by kernel_rfl, fun w' h => by have hf := (blk_cell (HSx.out w' h).1 17).trans (eP_n HP.out); go_simp⟩) s0 ?_
          (try simp only [Act.put, List.setIfInBounds_toArray, List.set_cons_zero, List.set_cons_succ])
          refine wpAnyH_take (i := 16) (v := .pointer (some ⟨g1, 0, none⟩)) rfl (by kernel_rfl) (by kernel_rfl) (by kernel_rfl) (fun _ _ _ h => h) (Or.inl ⟨by kernel_rfl, fun w' h => by first | (go_simp; done) | (go_simp; rfl)⟩) s0 ?_
          (try simp only [Act.put, List.setIfInBounds_toArray, List.set_cons_zero, List.set_cons_succ])
          refine wpAnyH_take (i := 17) (oi := { dst := some 25, op := .load 30 (.tmp 24), type := 30, pos := "ref.go:13", after := #[{ on := 16, ground := .data }, { on := 13, ground := .guard }], guard := some (13, false) }) (v := .agg (lA p.a).toArray) ?zh1 ?zh2 ?zh3 ?zh4 (fun _ _ _ h => h) ?zh5 s0 ?zh6
          case zh1 => rfl
          case zh2 => kernel_rfl
          case zh3 => kernel_rfl
          case zh4 => kernel_rfl
          case zh5 =>
            refine yieldsIf_load_mid ?zka 30 (.tmp 24) ?zkb g1 0 ?zkc (lA p.a) _ ?zkd Tryz.underlying30 ?zke (infoL HP.out)
            case zka => kernel_rfl
            case zkb => kernel_rfl
            case zkc => kernel_rfl
            case zke => kernel_rfl
            case zkd => exact fun w' h => part_addr (HSx.out w' h).1
          (try simp only [Act.put, List.setIfInBounds_toArray, List.set_cons_zero, List.set_cons_succ])
          refine held_step (i := 18) (by kernel_rfl) rfl (by kernel_rfl) (fun K hK => ?_)
          go_wp2_with (go_at_call 75; refine (ref04_Bits p.a w5).mono ?_; rintro e w3 ⟨rfl, hb⟩; have s1 := HSt.out _ _ s0 hb; clear hb)
          refine hK.out _ _ s1 ?_
          clear hK K
          (try simp only [Act.put, List.setIfInBounds_toArray, List.set_cons_zero, List.set_cons_succ])
          refine held_step (i := 19) (by kernel_rfl) rfl (by kernel_rfl) (fun K hK => ?_)
          go_wp2
          refine hK.out _ _ s1 ?_
          clear hK K
          (try simp only [Act.put, List.setIfInBounds_toArray, List.set_cons_zero, List.set_cons_succ])
          refine held_step (i := 20) (by kernel_rfl) rfl (by kernel_rfl) (fun K hK => ?_)
          go_wp2
          refine hK.out _ _ s1 ?_
          clear hK K
          (try simp only [Act.put, List.setIfInBounds_toArray, List.set_cons_zero, List.set_cons_succ])
          refine wpAnyH_done (by kernel_rfl) ?_ _
          have HX3 := Aside0.mk (HSx.out _ s1).1
          have HB3 := Aside0.mk (HSx.out _ s1).2
          have hn3 := (blk_cell HX3.out 17).trans (eP_n HP.out)
          clear s0 s1
          go_wp2
          go_loopw [4] (fun v4 wr => ∃ i : Nat, v4 = .int .i64 (i : Int) ∧ Aside0 (i ≤ (bitsOf p.a.fam).toNat) ∧ Aside0 (p.n ≤ (i : Int)) ∧ Aside0 (∀ j : Nat, p.n ≤ (j : Int) → j < i → bitA p.a j = 0) ∧ Aside0 (wr.heap[g1]? = some (.cells (eP p) 42 (0, 0)) ∧ Below w.heap.size w wr)) (fun v4 _ => (bitsOf p.a.fam).toNat - (intOf v4).toNat)
          case atStart => exact ⟨m, (by first | rfl | exact congrArg (Value.int .i64) HMN.out), ⟨by have := HG.out; have := HMN.out; omega⟩, ⟨by have := HMN.out; omega⟩, ⟨fun j h1 h2 => by have := HMN.out; omega⟩, ⟨HX3.out, HB3.out⟩⟩
          case round =>
            obtain ⟨i, rfl, HI, HC0, HC, HE⟩ := hrel
            clear HX HX2 HX3 HB HB2 HB3 hn3
            have HX := Aside0.mk HE.out.1
            have HB := Aside0.mk HE.out.2
            clear HE
            by_cases hlt : i < (bitsOf p.a.fam).toNat
            · have c4b0 : decide ((i : Int) < bitsOf p.a.fam) = true := decide_eq_true (by omega)
              have e4 : wrap64 ((i : Int) + 1) = ((i + 1 : Nat) : Int) := wrap_sm1 i (by have := bitsOf_le p.a.fam; omega)
              have HE4 := Aside0.mk e4
              have HLT := Aside0.mk hlt
              clear hlt
              by_cases hz : bitA p.a i = 0
              · have c5b0 : (bitA p.a (i : Int) == 0) = true := by simpa using hz
                have c5b1 : (bitA p.a (i : Int) != 0) = false := by simpa using hz
                have HC2 := Aside0.mk (show ∀ j : Nat, p.n ≤ (j : Int) → j < i + 1 → bitA p.a j = 0 by
                  intro j h1 h2
                  by_cases hji : j < i
                  · exact HC.out j h1 hji
                  · rw [show j = i by omega]; exact hz)
                clear hz
                go_wp2_with (first
                  | ((with_reducible refine gate_dst (N := 33) rfl ?_); refine load_addr rfl (.tmp 32) rfl rfl HP.out HX.out ?_)
                  | (go_at_call 75; refine (ref04_Bits p.a wr).mono ?_; rintro e w6 ⟨rfl, hb⟩; have HX6 := Aside0.mk (blk_below HX.out hb); have HB6 := Aside0.mk (below_step HB.out hb); clear hb)
                  | ((with_reducible refine gate_dst (N := 39) rfl ?_); refine load_addr rfl (.tmp 38) rfl rfl HP.out HX6.out ?_)
                  | (go_at_call 52; refine (ref04_Bit p.a HP.out (i : Int) w6).mono ?_; rintro e w7 ⟨rfl, hb⟩; have HX7 := Aside0.mk (blk_below HX6.out hb); have HB7 := Aside0.mk (below_step HB6.out hb); clear hb))
                go_roundw
                case rel => exact ⟨i + 1, (by first | rfl | exact congrArg (Value.int .i64) HE4.out), ⟨HLT.out⟩, ⟨by have := HC0.out; omega⟩, HC2, ⟨HX7.out, HB7.out⟩⟩
                case measure => exact measureA _ i _ (by first | rfl | exact HE4.out) HLT.out
              · have c5b0 : (bitA p.a (i : Int) == 0) = false := by simpa using hz
                have c5b1 : (bitA p.a (i : Int) != 0) = true := by simpa using hz
                have HR := Aside0.mk (mayP_no (p := p) (fun h => hz (h.2.2.2.2 i (HC0.out) (by have := HLT.out; omega))))
                clear hz
                go_wp2_with (first
                  | ((with_reducible refine gate_dst (N := 33) rfl ?_); refine load_addr rfl (.tmp 32) rfl rfl HP.out HX.out ?_)
                  | (go_at_call 75; refine (ref04_Bits p.a wr).mono ?_; rintro e w6 ⟨rfl, hb⟩; have HX6 := Aside0.mk (blk_below HX.out hb); have HB6 := Aside0.mk (below_step HB.out hb); clear hb)
                  | ((with_reducible refine gate_dst (N := 39) rfl ?_); refine load_addr rfl (.tmp 38) rfl rfl HP.out HX6.out ?_)
                  | (go_at_call 52; refine (ref04_Bit p.a HP.out (i : Int) w6).mono ?_; rintro e w7 ⟨rfl, hb⟩; have HX7 := Aside0.mk (blk_below HX6.out hb); have HB7 := Aside0.mk (below_step HB6.out hb); clear hb))
                go_ret
                exact ⟨by rw [HR.out]; first | done | rfl, HB7.out⟩
            · have c4b0 : decide ((i : Int) < bitsOf p.a.fam) = false := decide_eq_false (by have := bitsOf_le p.a.fam; omega)
              have HR := Aside0.mk ((mayP_iff p).2 ⟨HM.out, H0.out, HG.out.1, HG.out.2, fun j h1 h2 => HC.out j h1 (by omega)⟩)
              clear hlt
              go_wp2_with (first
                  | ((with_reducible refine gate_dst (N := 33) rfl ?_); refine load_addr rfl (.tmp 32) rfl rfl HP.out HX.out ?_)
                  | (go_at_call 75; refine (ref04_Bits p.a wr).mono ?_; rintro e w6 ⟨rfl, hb⟩; have HX6 := Aside0.mk (blk_below HX.out hb); have HB6 := Aside0.mk (below_step HB.out hb); clear hb)
                  | ((with_reducible refine gate_dst (N := 39) rfl ?_); refine load_addr rfl (.tmp 38) rfl rfl HP.out HX6.out ?_)
                  | (go_at_call 52; refine (ref04_Bit p.a HP.out (i : Int) w6).mono ?_; rintro e w7 ⟨rfl, hb⟩; have HX7 := Aside0.mk (blk_below HX6.out hb); have HB7 := Aside0.mk (below_step HB6.out hb); clear hb))
              go_ret
              exact ⟨by rw [HR.out]; first | done | rfl, HB6.out⟩
end Go.Proofs.YthdognlkacjkhaaGreatDoor.P
end
