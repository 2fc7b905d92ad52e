/-
  Whether a prefix may be.
-/
import Derived.Test.YthjhbhgfckaklaaM2
namespace Go.Proofs.Ythjhbhgfckaklaa.P
open Go.RowKit Go.Proofs.YthjhbhgfckaklaaW.PrintWords Go.Proofs.YthjhbhgfckaklaaW.PrintLast Go.Proofs.YthjhbhgfckaklaaW.PrintMore
set_option linter.unusedVariables false
set_option linter.unusedSimpArgs false
def mayPP (p : Pf) : Prop := mayA p.a = true ∧ p.a.fam ≠ 0 ∧ 0 ≤ p.n ∧ p.n ≤ bitsOf p.a.fam ∧ ∀ j : Nat, p.n ≤ (j : Int) → (j : Int) < bitsOf p.a.fam → bitA p.a j = 0
def mayP (p : Pf) : Bool := mayA p.a && decide (p.a.fam ≠ 0) && decide (0 ≤ p.n) && decide (p.n ≤ bitsOf p.a.fam) && (List.range (bitsOf p.a.fam).toNat).all fun j => decide (p.n ≤ (j : Int) → bitA p.a j = 0)
theorem mayP_iff (p : Pf) : mayP p = true ↔ mayPP p := by
  unfold mayP mayPP
  simp only [Bool.and_eq_true, decide_eq_true_eq, List.all_eq_true, List.mem_range]
  constructor
  · rintro ⟨⟨⟨⟨h1, h2⟩, h3⟩, h4⟩, h5⟩
    exact ⟨h1, h2, h3, h4, fun j a b => h5 j (by omega) a⟩
  · rintro ⟨h1, h2, h3, h4, h5⟩
    exact ⟨⟨⟨⟨h1, h2⟩, h3⟩, h4⟩, fun j a b => h5 j b (by omega)⟩
theorem mayP_no {p : Pf} (h : ¬ mayPP p) : mayP p = false := by
  cases hb : mayP p
  · rfl
  · exact absurd ((mayP_iff p).1 hb) h
section
variable {P : Program} {ops : Array Oper} {Q : Exit → Act → World → Prop} {md : Region.Mode} {S : World → Prop}
/-- From a region on: the world behind the draw as a letter ('generalize' of the draw does not end). -/
theorem anyH_world {fuel : Nat} {listed : Array Bool} {a : Act} {w : World} (hs : S w) (h : ∀ w' : World, S w' → wpAnyH P md ops Q S fuel listed a w') : wpAnyH P md ops Q S fuel listed a w := h w hs
end
set_option maxHeartbeats 2000000 in
set_option maxRecDepth 100000 in
theorem ref05_May (p : Pf) (hp : p.a.ok) (w : World) : Calls Try.prog 52 #[.agg (eP p)] w fun e w' => e = .returned (.bool (mayP p)) ∧ Below w.heap.size w w' := by
  have HB := Aside0.mk (Below.refl w.heap.size w)
  have HP := Aside0.mk hp
  clear hp
  cases hm : mayA p.a
  · have HM := Aside0.mk hm
    have HR := Aside0.mk (mayP_no (p := p) (fun h => by rw [h.1] at hm; cases hm))
    clear hm
    go_enter Try.func52, Try.ntmps52
    go_wp2_with (first
      | ((with_reducible refine gate_dst (N := 1) rfl ?_); refine box_event ?hg (N := 1) ?hd (cs := eP p) (t := 39) ?hr ?_; (case hd => rfl); (case hg => rfl); (case hr => first | (go_simp; done) | (go_simp; rfl)); intro g1 hg w1 hbox hb; have HX := Aside0.mk hbox; replace HB := Aside0.mk (below_step (bel_later HB.out) hb); clear hb hg hbox)
      | ((with_reducible refine gate_dst (N := 6) rfl ?_); refine load_addr rfl (.tmp 5) rfl rfl HP.out HX.out ?_)
      | (go_at_call 75; refine (ref04_May p.a HP.out w1).mono ?_; rintro e w2 ⟨rfl, hb⟩; rw [HM.out]; have HX2 := Aside0.mk (blk_below HX.out hb); have HB2 := Aside0.mk (below_step HB.out hb); have hn := (blk_cell HX2.out 17).trans (eP_n HP.out); have h0 := (blk_cell HX2.out 0).trans (eP_fam p); clear hb))
    go_quiet (fail)
    go_wp2
    go_ret
    exact ⟨by rw [HR.out]; first | done | rfl, bel_later HB2.out⟩
  · have HM := Aside0.mk hm
    by_cases h0 : p.a.fam = 0
    · have c1b0 : (p.a.fam == 0) = true := by simpa using h0
      have HR := Aside0.mk (mayP_no (p := p) (fun h => h.2.1 h0))
      clear hm h0
      go_enter Try.func52, Try.ntmps52
      go_wp2_with (first
        | ((with_reducible refine gate_dst (N := 1) rfl ?_); refine box_event ?hg (N := 1) ?hd (cs := eP p) (t := 39) ?hr ?_; (case hd => rfl); (case hg => rfl); (case hr => first | (go_simp; done) | (go_simp; rfl)); intro g1 hg w1 hbox hb; have HX := Aside0.mk hbox; replace HB := Aside0.mk (below_step (bel_later HB.out) hb); clear hb hg hbox)
        | ((with_reducible refine gate_dst (N := 6) rfl ?_); refine load_addr rfl (.tmp 5) rfl rfl HP.out HX.out ?_)
        | (go_at_call 75; refine (ref04_May p.a HP.out w1).mono ?_; rintro e w2 ⟨rfl, hb⟩; rw [HM.out]; have HX2 := Aside0.mk (blk_below HX.out hb); have HB2 := Aside0.mk (below_step HB.out hb); have hn := (blk_cell HX2.out 17).trans (eP_n HP.out); have h0 := (blk_cell HX2.out 0).trans (eP_fam p); clear hb))
      go_quiet (fail)
      go_wp2
      go_ret
      exact ⟨by rw [HR.out]; first | done | rfl, bel_later HB2.out⟩
    · have c1b0 : (p.a.fam == 0) = false := by simpa using h0
      have H0 := Aside0.mk h0
      clear h0
      by_cases h1 : p.n < 0
      · have c2b0 : decide (p.n < 0) = true := decide_eq_true h1
        have HR := Aside0.mk (mayP_no (p := p) (fun h => by have := h.2.2.1; omega))
        clear hm h1
        go_enter Try.func52, Try.ntmps52
        go_wp2_with (first
          | ((with_reducible refine gate_dst (N := 1) rfl ?_); refine box_event ?hg (N := 1) ?hd (cs := eP p) (t := 39) ?hr ?_; (case hd => rfl); (case hg => rfl); (case hr => first | (go_simp; done) | (go_simp; rfl)); intro g1 hg w1 hbox hb; have HX := Aside0.mk hbox; replace HB := Aside0.mk (below_step (bel_later HB.out) hb); clear hb hg hbox)
          | ((with_reducible refine gate_dst (N := 6) rfl ?_); refine load_addr rfl (.tmp 5) rfl rfl HP.out HX.out ?_)
          | (go_at_call 75; refine (ref04_May p.a HP.out w1).mono ?_; rintro e w2 ⟨rfl, hb⟩; rw [HM.out]; have HX2 := Aside0.mk (blk_below HX.out hb); have HB2 := Aside0.mk (below_step HB.out hb); have hn := (blk_cell HX2.out 17).trans (eP_n HP.out); have h0 := (blk_cell HX2.out 0).trans (eP_fam p); clear hb))
        go_quiet (fail)
        go_wp2
        go_ret
        exact ⟨by rw [HR.out]; first | done | rfl, bel_later HB2.out⟩
      · have c2b0 : decide (p.n < 0) = false := decide_eq_false h1
        by_cases h2 : bitsOf p.a.fam < p.n
        · have c3b0 : decide (bitsOf p.a.fam < p.n) = true := decide_eq_true h2
          have HR := Aside0.mk (mayP_no (p := p) (fun h => by have := h.2.2.2.1; omega))
          clear hm h1 h2
          go_enter Try.func52, Try.ntmps52
          go_wp2_with (first
            | ((with_reducible refine gate_dst (N := 1) rfl ?_); refine box_event ?hg (N := 1) ?hd (cs := eP p) (t := 39) ?hr ?_; (case hd => rfl); (case hg => rfl); (case hr => first | (go_simp; done) | (go_simp; rfl)); intro g1 hg w1 hbox hb; have HX := Aside0.mk hbox; replace HB := Aside0.mk (below_step (bel_later HB.out) hb); clear hb hg hbox)
            | ((with_reducible refine gate_dst (N := 6) rfl ?_); refine load_addr rfl (.tmp 5) rfl rfl HP.out HX.out ?_)
            | (go_at_call 75; refine (ref04_May p.a HP.out w1).mono ?_; rintro e w2 ⟨rfl, hb⟩; rw [HM.out]; have HX2 := Aside0.mk (blk_below HX.out hb); have HB2 := Aside0.mk (below_step HB.out hb); have hn := (blk_cell HX2.out 17).trans (eP_n HP.out); have h0 := (blk_cell HX2.out 0).trans (eP_fam p); clear hb))
          obtain ⟨S, hS⟩ : ∃ S : World → Prop, S = fun w' => w'.heap[g1]? = some (.cells (eP p) 39 (0, 0)) ∧ Below w.heap.size w w' := ⟨_, rfl⟩
          have HSt := Aside0.mk (show ∀ a b : World, S a → Below a.heap.size a b → S b by
            intro a b h hb
            rw [hS] at h ⊢
            exact ⟨blk_below h.1 hb, below_step h.2 hb⟩)
          have HSx := Aside0.mk (show ∀ b : World, S b → b.heap[g1]? = some (.cells (eP p) 39 (0, 0)) ∧ Below w.heap.size w b by
            intro b h
            rw [hS] at h
            exact h)
          have s0 : S w2.drew := by rw [hS]; exact ⟨blk_later HX2.out, bel_later HB2.out⟩
          clear hS hn h0
          refine wp_region_held_drew (S := S) (by kernel_rfl) s0 (fun _ => ?_)
          refine anyH_world s0 (fun w5 s5 => ?_)
          clear s0
          have s0 := s5
          clear s5
          refine wpAnyH_take (i := 0) (v := .bool true) rfl (by kernel_rfl) (by kernel_rfl) (by kernel_rfl) (fun _ _ _ h => h) (Or.inl ⟨by kernel_rfl, fun w' h => by first | (go_simp; done) | (go_simp; rfl)⟩) s0 ?_
          (try simp only [Act.put, List.setIfInBounds_toArray, List.set_cons_zero, List.set_cons_succ])
          refine wpAnyH_take (i := 1) (v := .bool false) rfl (by kernel_rfl) (by kernel_rfl) (by kernel_rfl) (fun _ _ _ h => h) (Or.inl ⟨by kernel_rfl, fun w' h => by first | (go_simp; done) | (go_simp; rfl)⟩) s0 ?_
          (try simp only [Act.put, List.setIfInBounds_toArray, List.set_cons_zero, List.set_cons_succ])
          refine wpAnyH_take (i := 2) (v := .bool false) rfl (by kernel_rfl) (by kernel_rfl) (by kernel_rfl) (fun _ _ _ h => h) (Or.inl ⟨by kernel_rfl, fun w' h => by first | (go_simp; done) | (go_simp; rfl)⟩) s0 ?_
          (try simp only [Act.put, List.setIfInBounds_toArray, List.set_cons_zero, List.set_cons_succ])
          refine wpAnyH_take (i := 3) (v := .pointer (some ⟨g1, 0, none⟩)) rfl (by kernel_rfl) (by kernel_rfl) (by kernel_rfl) (fun _ _ _ h => h) (Or.inl ⟨by kernel_rfl, fun w' h => by first | (go_simp; done) | (go_simp; rfl)⟩) s0 ?_
          (try simp only [Act.put, List.setIfInBounds_toArray, List.set_cons_zero, List.set_cons_succ])
          refine wpAnyH_take (i := 4) (v := .pointer (some ⟨g1, 0, none⟩)) rfl (by kernel_rfl) (by kernel_rfl) (by kernel_rfl) (fun _ _ _ h => h) (Or.inl ⟨by kernel_rfl, fun w' h => by first | (go_simp; done) | (go_simp; rfl)⟩) s0 ?_
          (try simp only [Act.put, List.setIfInBounds_toArray, List.set_cons_zero, List.set_cons_succ])
          refine wpAnyH_take (i := 5) (v := .int .i64 p.a.fam) rfl (by kernel_rfl) (by kernel_rfl) (by kernel_rfl) (fun _ _ _ h => h) (Or.inl ⟨by kernel_rfl, fun w' h => by have hf := (blk_cell (HSx.out w' h).1 0).trans (eP_fam p); go_simp⟩) s0 ?_
          (try simp only [Act.put, List.setIfInBounds_toArray, List.set_cons_zero, List.set_cons_succ])
          refine wpAnyH_take (i := 6) (v := .bool false) rfl (by kernel_rfl) (by kernel_rfl) (by kernel_rfl) (fun _ _ _ h => h) (Or.inl ⟨by kernel_rfl, fun w' h => by first | (go_simp; done) | (go_simp; rfl)⟩) s0 ?_
          (try simp only [Act.put, List.setIfInBounds_toArray, List.set_cons_zero, List.set_cons_succ])
          refine wpAnyH_take (i := 7) (v := .bool false) rfl (by kernel_rfl) (by kernel_rfl) (by kernel_rfl) (fun _ _ _ h => h) (Or.inl ⟨by kernel_rfl, fun w' h => by first | (go_simp; done) | (go_simp; rfl)⟩) s0 ?_
          (try simp only [Act.put, List.setIfInBounds_toArray, List.set_cons_zero, List.set_cons_succ])
          refine wpAnyH_take (i := 8) (v := .bool false) rfl (by kernel_rfl) (by kernel_rfl) (by kernel_rfl) (fun _ _ _ h => h) (Or.inl ⟨by kernel_rfl, fun w' h => by first | (go_simp; done) | (go_simp; rfl)⟩) s0 ?_
          (try simp only [Act.put, List.setIfInBounds_toArray, List.set_cons_zero, List.set_cons_succ])
          refine wpAnyH_take (i := 9) (v := .pointer (some ⟨g1, 17, none⟩)) rfl (by kernel_rfl) (by kernel_rfl) (by kernel_rfl) (fun _ _ _ h => h) (Or.inl ⟨by kernel_rfl, fun w' h => by first | (go_simp; done) | (go_simp; rfl)⟩) s0 ?_
          (try simp only [Act.put, List.setIfInBounds_toArray, List.set_cons_zero, List.set_cons_succ])
          refine wpAnyH_take (i := 10) (v := .int .i64 p.n) rfl (by kernel_rfl) (by kernel_rfl) (by kernel_rfl) (fun _ _ _ h => h) (Or.inl ⟨by kernel_rfl, fun w' h => by have hf := (blk_cell (HSx.out w' h).1 17).trans (eP_n HP.out); go_simp⟩) s0 ?_
          (try simp only [Act.put, List.setIfInBounds_toArray, List.set_cons_zero, List.set_cons_succ])
          refine wpAnyH_take (i := 11) (v := .bool false) rfl (by kernel_rfl) (by kernel_rfl) (by kernel_rfl) (fun _ _ _ h => h) (Or.inl ⟨by kernel_rfl, fun w' h => by first | (go_simp; done) | (go_simp; rfl)⟩) s0 ?_
          (try simp only [Act.put, List.setIfInBounds_toArray, List.set_cons_zero, List.set_cons_succ])
          refine wpAnyH_take (i := 12) (v := .bool false) rfl (by kernel_rfl) (by kernel_rfl) (by kernel_rfl) (fun _ _ _ h => h) (Or.inl ⟨by kernel_rfl, fun w' h => by first | (go_simp; done) | (go_simp; rfl)⟩) s0 ?_
          (try simp only [Act.put, List.setIfInBounds_toArray, List.set_cons_zero, List.set_cons_succ])
          refine wpAnyH_take (i := 13) (v := .bool false) rfl (by kernel_rfl) (by kernel_rfl) (by kernel_rfl) (fun _ _ _ h => h) (Or.inl ⟨by kernel_rfl, fun w' h => by first | (go_simp; done) | (go_simp; rfl)⟩) s0 ?_
          (try simp only [Act.put, List.setIfInBounds_toArray, List.set_cons_zero, List.set_cons_succ])
          refine wpAnyH_take (i := 14) (v := .pointer (some ⟨g1, 17, none⟩)) rfl (by kernel_rfl) (by kernel_rfl) (by kernel_rfl) (fun _ _ _ h => h) (Or.inl ⟨by kernel_rfl, fun w' h => by first | (go_simp; done) | (go_simp; rfl)⟩) s0 ?_
          (try simp only [Act.put, List.setIfInBounds_toArray, List.set_cons_zero, List.set_cons_succ])
          refine wpAnyH_take (i := 15) (v := .int .i64 p.n) rfl (by kernel_rfl) (by kernel_rfl) (by kernel_rfl) (fun _ _ _ h => h) (Or.inl ⟨by kernel_rfl, fun w' h => by have hf := (blk_cell (HSx.out w' h).1 17).trans (eP_n HP.out); go_simp⟩) s0 ?_
          (try simp only [Act.put, List.setIfInBounds_toArray, List.set_cons_zero, List.set_cons_succ])
          refine wpAnyH_take (i := 16) (v := .pointer (some ⟨g1, 0, none⟩)) rfl (by kernel_rfl) (by kernel_rfl) (by kernel_rfl) (fun _ _ _ h => h) (Or.inl ⟨by kernel_rfl, fun w' h => by first | (go_simp; done) | (go_simp; rfl)⟩) s0 ?_
          (try simp only [Act.put, List.setIfInBounds_toArray, List.set_cons_zero, List.set_cons_succ])
          refine wpAnyH_take (i := 17) (oi := { dst := some 25, op := .load 34 (.tmp 24), type := 34, pos := "ref.go:13", after := #[{ on := 16, ground := .data }, { on := 13, ground := .guard }], guard := some (13, false) }) (v := .agg (lA p.a).toArray) ?h1 ?h2 ?h3 ?h4 (fun _ _ _ h => h) ?h5 s0 ?h6
          case h1 => rfl
          case h2 => kernel_rfl
          case h3 => kernel_rfl
          case h4 => kernel_rfl
          case h5 =>
            refine yieldsIf_load_mid ?ka 34 (.tmp 24) ?kb g1 0 ?kc (lA p.a) _ ?kd Try.underlying34 ?ke (infoL HP.out)
            case ka => kernel_rfl
            case kb => kernel_rfl
            case kc => kernel_rfl
            case ke => kernel_rfl
            case kd => exact fun w' h => part_addr (HSx.out w' h).1
          (try simp only [Act.put, List.setIfInBounds_toArray, List.set_cons_zero, List.set_cons_succ])
          refine held_step (i := 18) (by kernel_rfl) rfl (by kernel_rfl) (fun K hK => ?_)
          go_wp2_with (go_at_call 43; refine (ref04_Bits p.a w5).mono ?_; rintro e w3 ⟨rfl, hb⟩; have s1 := HSt.out _ _ s0 hb; clear hb)
          refine hK.out _ _ s1 ?_
          clear hK K
          (try simp only [Act.put, List.setIfInBounds_toArray, List.set_cons_zero, List.set_cons_succ])
          refine held_step (i := 19) (by kernel_rfl) rfl (by kernel_rfl) (fun K hK => ?_)
          go_wp2
          refine hK.out _ _ s1 ?_
          clear hK K
          (try simp only [Act.put, List.setIfInBounds_toArray, List.set_cons_zero, List.set_cons_succ])
          refine held_step (i := 20) (by kernel_rfl) rfl (by kernel_rfl) (fun K hK => ?_)
          go_wp2
          refine hK.out _ _ s1 ?_
          clear hK K
          (try simp only [Act.put, List.setIfInBounds_toArray, List.set_cons_zero, List.set_cons_succ])
          refine wpAnyH_done (by kernel_rfl) ?_ _
          have HX3 := Aside0.mk (HSx.out _ s1).1
          have HB3 := Aside0.mk (HSx.out _ s1).2
          have hn3 := (blk_cell HX3.out 17).trans (eP_n HP.out)
          clear s0 s1
          go_wp2
          go_ret
          exact ⟨by rw [HR.out]; first | done | rfl, HB3.out⟩
        · have c3b0 : decide (bitsOf p.a.fam < p.n) = false := decide_eq_false h2
          have HG := Aside0.mk (show 0 ≤ p.n ∧ p.n ≤ bitsOf p.a.fam by omega)
          obtain ⟨m, hmn⟩ := Int.eq_ofNat_of_zero_le (show 0 ≤ p.n by omega)
          have HMN := Aside0.mk hmn
          clear hm h1 h2 hmn
          go_enter Try.func52, Try.ntmps52
          go_wp2_with (first
            | ((with_reducible refine gate_dst (N := 1) rfl ?_); refine box_event ?hg (N := 1) ?hd (cs := eP p) (t := 39) ?hr ?_; (case hd => rfl); (case hg => rfl); (case hr => first | (go_simp; done) | (go_simp; rfl)); intro g1 hg w1 hbox hb; have HX := Aside0.mk hbox; replace HB := Aside0.mk (below_step (bel_later HB.out) hb); clear hb hg hbox)
            | ((with_reducible refine gate_dst (N := 6) rfl ?_); refine load_addr rfl (.tmp 5) rfl rfl HP.out HX.out ?_)
            | (go_at_call 75; refine (ref04_May p.a HP.out w1).mono ?_; rintro e w2 ⟨rfl, hb⟩; rw [HM.out]; have HX2 := Aside0.mk (blk_below HX.out hb); have HB2 := Aside0.mk (below_step HB.out hb); have hn := (blk_cell HX2.out 17).trans (eP_n HP.out); have h0 := (blk_cell HX2.out 0).trans (eP_fam p); clear hb))
          obtain ⟨S, hS⟩ : ∃ S : World → Prop, S = fun w' => w'.heap[g1]? = some (.cells (eP p) 39 (0, 0)) ∧ Below w.heap.size w w' := ⟨_, rfl⟩
          have HSt := Aside0.mk (show ∀ a b : World, S a → Below a.heap.size a b → S b by
            intro a b h hb
            rw [hS] at h ⊢
            exact ⟨blk_below h.1 hb, below_step h.2 hb⟩)
          have HSx := Aside0.mk (show ∀ b : World, S b → b.heap[g1]? = some (.cells (eP p) 39 (0, 0)) ∧ Below w.heap.size w b by
            intro b h
            rw [hS] at h
            exact h)
          have s0 : S w2.drew := by rw [hS]; exact ⟨blk_later HX2.out, bel_later HB2.out⟩
          clear hS hn h0
          refine wp_region_held_drew (S := S) (by kernel_rfl) s0 (fun _ => ?_)
          refine anyH_world s0 (fun w5 s5 => ?_)
          clear s0
          have s0 := s5
          clear s5
          refine wpAnyH_take (i := 0) (v := .bool true) rfl (by kernel_rfl) (by kernel_rfl) (by kernel_rfl) (fun _ _ _ h => h) (Or.inl ⟨by kernel_rfl, fun w' h => by first | (go_simp; done) | (go_simp; rfl)⟩) s0 ?_
          (try simp only [Act.put, List.setIfInBounds_toArray, List.set_cons_zero, List.set_cons_succ])
          refine wpAnyH_take (i := 1) (v := .bool false) rfl (by kernel_rfl) (by kernel_rfl) (by kernel_rfl) (fun _ _ _ h => h) (Or.inl ⟨by kernel_rfl, fun w' h => by first | (go_simp; done) | (go_simp; rfl)⟩) s0 ?_
          (try simp only [Act.put, List.setIfInBounds_toArray, List.set_cons_zero, List.set_cons_succ])
          refine wpAnyH_take (i := 2) (v := .bool false) rfl (by kernel_rfl) (by kernel_rfl) (by kernel_rfl) (fun _ _ _ h => h) (Or.inl ⟨by kernel_rfl, fun w' h => by first | (go_simp; done) | (go_simp; rfl)⟩) s0 ?_
          (try simp only [Act.put, List.setIfInBounds_toArray, List.set_cons_zero, List.set_cons_succ])
          refine wpAnyH_take (i := 3) (v := .pointer (some ⟨g1, 0, none⟩)) rfl (by kernel_rfl) (by kernel_rfl) (by kernel_rfl) (fun _ _ _ h => h) (Or.inl ⟨by kernel_rfl, fun w' h => by first | (go_simp; done) | (go_simp; rfl)⟩) s0 ?_
          (try simp only [Act.put, List.setIfInBounds_toArray, List.set_cons_zero, List.set_cons_succ])
          refine wpAnyH_take (i := 4) (v := .pointer (some ⟨g1, 0, none⟩)) rfl (by kernel_rfl) (by kernel_rfl) (by kernel_rfl) (fun _ _ _ h => h) (Or.inl ⟨by kernel_rfl, fun w' h => by first | (go_simp; done) | (go_simp; rfl)⟩) s0 ?_
          (try simp only [Act.put, List.setIfInBounds_toArray, List.set_cons_zero, List.set_cons_succ])
          refine wpAnyH_take (i := 5) (v := .int .i64 p.a.fam) rfl (by kernel_rfl) (by kernel_rfl) (by kernel_rfl) (fun _ _ _ h => h) (Or.inl ⟨by kernel_rfl, fun w' h => by have hf := (blk_cell (HSx.out w' h).1 0).trans (eP_fam p); go_simp⟩) s0 ?_
          (try simp only [Act.put, List.setIfInBounds_toArray, List.set_cons_zero, List.set_cons_succ])
          refine wpAnyH_take (i := 6) (v := .bool false) rfl (by kernel_rfl) (by kernel_rfl) (by kernel_rfl) (fun _ _ _ h => h) (Or.inl ⟨by kernel_rfl, fun w' h => by first | (go_simp; done) | (go_simp; rfl)⟩) s0 ?_
          (try simp only [Act.put, List.setIfInBounds_toArray, List.set_cons_zero, List.set_cons_succ])
          refine wpAnyH_take (i := 7) (v := .bool false) rfl (by kernel_rfl) (by kernel_rfl) (by kernel_rfl) (fun _ _ _ h => h) (Or.inl ⟨by kernel_rfl, fun w' h => by first | (go_simp; done) | (go_simp; rfl)⟩) s0 ?_
          (try simp only [Act.put, List.setIfInBounds_toArray, List.set_cons_zero, List.set_cons_succ])
          refine wpAnyH_take (i := 8) (v := .bool false) rfl (by kernel_rfl) (by kernel_rfl) (by kernel_rfl) (fun _ _ _ h => h) (Or.inl ⟨by kernel_rfl, fun w' h => by first | (go_simp; done) | (go_simp; rfl)⟩) s0 ?_
          (try simp only [Act.put, List.setIfInBounds_toArray, List.set_cons_zero, List.set_cons_succ])
          refine wpAnyH_take (i := 9) (v := .pointer (some ⟨g1, 17, none⟩)) rfl (by kernel_rfl) (by kernel_rfl) (by kernel_rfl) (fun _ _ _ h => h) (Or.inl ⟨by kernel_rfl, fun w' h => by first | (go_simp; done) | (go_simp; rfl)⟩) s0 ?_
          (try simp only [Act.put, List.setIfInBounds_toArray, List.set_cons_zero, List.set_cons_succ])
          refine wpAnyH_take (i := 10) (v := .int .i64 p.n) rfl (by kernel_rfl) (by kernel_rfl) (by kernel_rfl) (fun _ _ _ h => h) (Or.inl ⟨by kernel_rfl, fun w' h => by have hf := (blk_cell (HSx.out w' h).1 17).trans (eP_n HP.out); go_simp⟩) s0 ?_
          (try simp only [Act.put, List.setIfInBounds_toArray, List.set_cons_zero, List.set_cons_succ])
          refine wpAnyH_take (i := 11) (v := .bool false) rfl (by kernel_rfl) (by kernel_rfl) (by kernel_rfl) (fun _ _ _ h => h) (Or.inl ⟨by kernel_rfl, fun w' h => by first | (go_simp; done) | (go_simp; rfl)⟩) s0 ?_
          (try simp only [Act.put, List.setIfInBounds_toArray, List.set_cons_zero, List.set_cons_succ])
          refine wpAnyH_take (i := 12) (v := .bool false) rfl (by kernel_rfl) (by kernel_rfl) (by kernel_rfl) (fun _ _ _ h => h) (Or.inl ⟨by kernel_rfl, fun w' h => by first | (go_simp; done) | (go_simp; rfl)⟩) s0 ?_
          (try simp only [Act.put, List.setIfInBounds_toArray, List.set_cons_zero, List.set_cons_succ])
          refine wpAnyH_take (i := 13) (v := .bool false) rfl (by kernel_rfl) (by kernel_rfl) (by kernel_rfl) (fun _ _ _ h => h) (Or.inl ⟨by kernel_rfl, fun w' h => by first | (go_simp; done) | (go_simp; rfl)⟩) s0 ?_
          (try simp only [Act.put, List.setIfInBounds_toArray, List.set_cons_zero, List.set_cons_succ])
          refine wpAnyH_take (i := 14) (v := .pointer (some ⟨g1, 17, none⟩)) rfl (by kernel_rfl) (by kernel_rfl) (by kernel_rfl) (fun _ _ _ h => h) (Or.inl ⟨by kernel_rfl, fun w' h => by first | (go_simp; done) | (go_simp; rfl)⟩) s0 ?_
          (try simp only [Act.put, List.setIfInBounds_toArray, List.set_cons_zero, List.set_cons_succ])
          refine wpAnyH_take (i := 15) (v := .int .i64 p.n) rfl (by kernel_rfl) (by kernel_rfl) (by kernel_rfl) (fun _ _ _ h => h) (Or.inl ⟨by kernel_rfl, fun w' h => by have hf := (blk_cell (HSx.out w' h).1 17).trans (eP_n HP.out); go_simp⟩) s0 ?_
          (try simp only [Act.put, List.setIfInBounds_toArray, List.set_cons_zero, List.set_cons_succ])
          refine wpAnyH_take (i := 16) (v := .pointer (some ⟨g1, 0, none⟩)) rfl (by kernel_rfl) (by kernel_rfl) (by kernel_rfl) (fun _ _ _ h => h) (Or.inl ⟨by kernel_rfl, fun w' h => by first | (go_simp; done) | (go_simp; rfl)⟩) s0 ?_
          (try simp only [Act.put, List.setIfInBounds_toArray, List.set_cons_zero, List.set_cons_succ])
          refine wpAnyH_take (i := 17) (oi := { dst := some 25, op := .load 34 (.tmp 24), type := 34, pos := "ref.go:13", after := #[{ on := 16, ground := .data }, { on := 13, ground := .guard }], guard := some (13, false) }) (v := .agg (lA p.a).toArray) ?zh1 ?zh2 ?zh3 ?zh4 (fun _ _ _ h => h) ?zh5 s0 ?zh6
          case zh1 => rfl
          case zh2 => kernel_rfl
          case zh3 => kernel_rfl
          case zh4 => kernel_rfl
          case zh5 =>
            refine yieldsIf_load_mid ?zka 34 (.tmp 24) ?zkb g1 0 ?zkc (lA p.a) _ ?zkd Try.underlying34 ?zke (infoL HP.out)
            case zka => kernel_rfl
            case zkb => kernel_rfl
            case zkc => kernel_rfl
            case zke => kernel_rfl
            case zkd => exact fun w' h => part_addr (HSx.out w' h).1
          (try simp only [Act.put, List.setIfInBounds_toArray, List.set_cons_zero, List.set_cons_succ])
          refine held_step (i := 18) (by kernel_rfl) rfl (by kernel_rfl) (fun K hK => ?_)
          go_wp2_with (go_at_call 43; refine (ref04_Bits p.a w5).mono ?_; rintro e w3 ⟨rfl, hb⟩; have s1 := HSt.out _ _ s0 hb; clear hb)
          refine hK.out _ _ s1 ?_
          clear hK K
          (try simp only [Act.put, List.setIfInBounds_toArray, List.set_cons_zero, List.set_cons_succ])
          refine held_step (i := 19) (by kernel_rfl) rfl (by kernel_rfl) (fun K hK => ?_)
          go_wp2
          refine hK.out _ _ s1 ?_
          clear hK K
          (try simp only [Act.put, List.setIfInBounds_toArray, List.set_cons_zero, List.set_cons_succ])
          refine held_step (i := 20) (by kernel_rfl) rfl (by kernel_rfl) (fun K hK => ?_)
          go_wp2
          refine hK.out _ _ s1 ?_
          clear hK K
          (try simp only [Act.put, List.setIfInBounds_toArray, List.set_cons_zero, List.set_cons_succ])
          refine wpAnyH_done (by kernel_rfl) ?_ _
          have HX3 := Aside0.mk (HSx.out _ s1).1
          have HB3 := Aside0.mk (HSx.out _ s1).2
          have hn3 := (blk_cell HX3.out 17).trans (eP_n HP.out)
          clear s0 s1
          go_wp2
          go_loopw [4] (fun v4 wr => ∃ i : Nat, v4 = .int .i64 (i : Int) ∧ Aside0 (i ≤ (bitsOf p.a.fam).toNat) ∧ Aside0 (p.n ≤ (i : Int)) ∧ Aside0 (∀ j : Nat, p.n ≤ (j : Int) → j < i → bitA p.a j = 0) ∧ Aside0 (wr.heap[g1]? = some (.cells (eP p) 39 (0, 0)) ∧ Below w.heap.size w wr)) (fun v4 _ => (bitsOf p.a.fam).toNat - (intOf v4).toNat)
          case atStart => exact ⟨m, (by first | rfl | exact congrArg (Value.int .i64) HMN.out), ⟨by have := HG.out; have := HMN.out; omega⟩, ⟨by have := HMN.out; omega⟩, ⟨fun j h1 h2 => by have := HMN.out; omega⟩, ⟨HX3.out, HB3.out⟩⟩
          case round =>
            obtain ⟨i, rfl, HI, HC0, HC, HE⟩ := hrel
            clear HX HX2 HX3 HB HB2 HB3 hn3
            have HX := Aside0.mk HE.out.1
            have HB := Aside0.mk HE.out.2
            clear HE
            by_cases hlt : i < (bitsOf p.a.fam).toNat
            · have c4b0 : decide ((i : Int) < bitsOf p.a.fam) = true := decide_eq_true (by omega)
              have e4 : wrap64 ((i : Int) + 1) = ((i + 1 : Nat) : Int) := wrap_sm1 i (by have := bitsOf_le p.a.fam; omega)
              have HE4 := Aside0.mk e4
              have HLT := Aside0.mk hlt
              clear hlt
              by_cases hz : bitA p.a i = 0
              · have c5b0 : (bitA p.a (i : Int) == 0) = true := by simpa using hz
                have c5b1 : (bitA p.a (i : Int) != 0) = false := by simpa using hz
                have HC2 := Aside0.mk (show ∀ j : Nat, p.n ≤ (j : Int) → j < i + 1 → bitA p.a j = 0 by
                  intro j h1 h2
                  by_cases hji : j < i
                  · exact HC.out j h1 hji
                  · rw [show j = i by omega]; exact hz)
                clear hz
                go_wp2_with (first
                  | ((with_reducible refine gate_dst (N := 33) rfl ?_); refine load_addr rfl (.tmp 32) rfl rfl HP.out HX.out ?_)
                  | (go_at_call 43; refine (ref04_Bits p.a wr).mono ?_; rintro e w6 ⟨rfl, hb⟩; have HX6 := Aside0.mk (blk_below HX.out hb); have HB6 := Aside0.mk (below_step HB.out hb); clear hb)
                  | ((with_reducible refine gate_dst (N := 39) rfl ?_); refine load_addr rfl (.tmp 38) rfl rfl HP.out HX6.out ?_)
                  | (go_at_call 55; refine (ref04_Bit p.a HP.out (i : Int) w6).mono ?_; rintro e w7 ⟨rfl, hb⟩; have HX7 := Aside0.mk (blk_below HX6.out hb); have HB7 := Aside0.mk (below_step HB6.out hb); clear hb))
                go_roundw
                case rel => exact ⟨i + 1, (by first | rfl | exact congrArg (Value.int .i64) HE4.out), ⟨HLT.out⟩, ⟨by have := HC0.out; omega⟩, HC2, ⟨HX7.out, HB7.out⟩⟩
                case measure => exact measureA _ i _ (by first | rfl | exact HE4.out) HLT.out
              · have c5b0 : (bitA p.a (i : Int) == 0) = false := by simpa using hz
                have c5b1 : (bitA p.a (i : Int) != 0) = true := by simpa using hz
                have HR := Aside0.mk (mayP_no (p := p) (fun h => hz (h.2.2.2.2 i (HC0.out) (by have := HLT.out; omega))))
                clear hz
                go_wp2_with (first
                  | ((with_reducible refine gate_dst (N := 33) rfl ?_); refine load_addr rfl (.tmp 32) rfl rfl HP.out HX.out ?_)
                  | (go_at_call 43; refine (ref04_Bits p.a wr).mono ?_; rintro e w6 ⟨rfl, hb⟩; have HX6 := Aside0.mk (blk_below HX.out hb); have HB6 := Aside0.mk (below_step HB.out hb); clear hb)
                  | ((with_reducible refine gate_dst (N := 39) rfl ?_); refine load_addr rfl (.tmp 38) rfl rfl HP.out HX6.out ?_)
                  | (go_at_call 55; refine (ref04_Bit p.a HP.out (i : Int) w6).mono ?_; rintro e w7 ⟨rfl, hb⟩; have HX7 := Aside0.mk (blk_below HX6.out hb); have HB7 := Aside0.mk (below_step HB6.out hb); clear hb))
                go_ret
                exact ⟨by rw [HR.out]; first | done | rfl, HB7.out⟩
            · have c4b0 : decide ((i : Int) < bitsOf p.a.fam) = false := decide_eq_false (by have := bitsOf_le p.a.fam; omega)
              have HR := Aside0.mk ((mayP_iff p).2 ⟨HM.out, H0.out, HG.out.1, HG.out.2, fun j h1 h2 => HC.out j h1 (by omega)⟩)
              clear hlt
              go_wp2_with (first
                  | ((with_reducible refine gate_dst (N := 33) rfl ?_); refine load_addr rfl (.tmp 32) rfl rfl HP.out HX.out ?_)
                  | (go_at_call 43; refine (ref04_Bits p.a wr).mono ?_; rintro e w6 ⟨rfl, hb⟩; have HX6 := Aside0.mk (blk_below HX.out hb); have HB6 := Aside0.mk (below_step HB.out hb); clear hb)
                  | ((with_reducible refine gate_dst (N := 39) rfl ?_); refine load_addr rfl (.tmp 38) rfl rfl HP.out HX6.out ?_)
                  | (go_at_call 55; refine (ref04_Bit p.a HP.out (i : Int) w6).mono ?_; rintro e w7 ⟨rfl, hb⟩; have HX7 := Aside0.mk (blk_below HX6.out hb); have HB7 := Aside0.mk (below_step HB6.out hb); clear hb))
              go_ret
              exact ⟨by rw [HR.out]; first | done | rfl, HB6.out⟩
end Go.Proofs.Ythjhbhgfckaklaa.P
