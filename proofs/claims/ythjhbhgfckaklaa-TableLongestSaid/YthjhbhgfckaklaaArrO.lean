/-
  Whether a prefix may be, as the program tells it.
-/
import Derived.Test.YthjhbhgfckaklaaArrN
namespace Go.Proofs.Ythjhbhgfckaklaa.P
open Go.RowKit Go.Proofs.YthjhbhgfckaklaaW.PrintWords Go.Proofs.YthjhbhgfckaklaaW.PrintLast Go.Proofs.YthjhbhgfckaklaaW.PrintMore
set_option linter.unusedVariables false
set_option linter.unusedSimpArgs false
def mayQ (p : Pf) : Bool := mayA p.a && (p.a.fam != 0) && decide (p = maskQ p.a p.n)
set_option maxHeartbeats 8000000 in
set_option maxRecDepth 100000 in
theorem cidr_May (p : Pf) (hp : p.a.ok) (w : World) : Calls Try.prog 48 #[.agg (eP p)] w fun e w' => e = .returned (.bool (mayQ p)) ∧ Below w.heap.size w w' := by
  have HB := Aside0.mk (Below.refl w.heap.size w)
  have HP := Aside0.mk hp
  have HO := Aside0.mk (ok_maskQ p.a hp p.n)
  have HR := Aside0.mk (show mayQ p = (mayA p.a && (p.a.fam != 0) && decide (p = maskQ p.a p.n)) from rfl)
  clear hp
  cases hm : mayA p.a
  · have HM := Aside0.mk hm
    have HR2 := Aside0.mk (show mayQ p = false by rw [HR.out, hm]; rfl)
    clear hm
    go_enter Try.func48, Try.ntmps48
    go_wp2_with ((with_reducible refine gate_dst (N := 1) rfl ?_); refine box_event ?hg (N := 1) ?hd (cs := eP p) (t := 39) ?hr ?_; (case hd => rfl); (case hg => rfl); (case hr => first | (go_simp; done) | (go_simp; rfl)); intro g1 hg w1 hbox hb; have HX := Aside0.mk hbox; replace HB := Aside0.mk (below_step (bel_later HB.out) hb); clear hb hg hbox)
    obtain ⟨S, hS⟩ : ∃ S : World → Prop, S = fun w' => w'.heap[g1]? = some (.cells (eP p) 39 (0, 0)) ∧ Below w.heap.size w w' := ⟨_, rfl⟩
    have HSt := Aside0.mk (show ∀ a b : World, S a → Below a.heap.size a b → S b by
      intro a b h hb
      rw [hS] at h ⊢
      exact ⟨blk_below h.1 hb, below_step h.2 hb⟩)
    have HSx := Aside0.mk (show ∀ x : World, S x → x.heap[g1]? = some (.cells (eP p) 39 (0, 0)) ∧ Below w.heap.size w x by
      intro b h
      rw [hS] at h
      exact h)
    have s0 : S w1.drew := by rw [hS]; exact ⟨blk_later HX.out, bel_later HB.out⟩
    clear hS
    refine wp_region_held_drew (S := S) (by kernel_rfl) s0 (fun _ => ?_)
    refine anyH_world s0 (fun w5 s5 => ?_)
    clear s0
    have s0 := s5
    clear s5
    refine wpAnyH_take (i := 0) (v := .pointer (some ⟨g1, 0, none⟩)) rfl (by kernel_rfl) (by kernel_rfl) (by kernel_rfl) (fun _ _ _ h => h) (Or.inl ⟨by kernel_rfl, fun w' h => by first | (go_simp; done) | (go_simp; rfl)⟩) s0 ?_
    (try simp only [Act.put, List.getElem_toArray, List.getElem_cons_succ, List.getElem_cons_zero, List.setIfInBounds_toArray, List.set_cons_zero, List.set_cons_succ])
    refine wpAnyH_take (i := 1) (v := .agg (lA p.a).toArray) rfl ?ya1b ?ya1c ?ya1d (fun _ _ _ h => h) ?ya1e s0 ?ya1f
    case ya1b => kernel_rfl
    case ya1c => kernel_rfl
    case ya1d => kernel_rfl
    case ya1e =>
      refine yieldsIf_load_mid ?ya1g 34 (.tmp 3) ?ya1h g1 0 ?ya1i (lA p.a) _ ?ya1j Try.underlying34 ?ya1k (infoL HP.out)
      case ya1g => kernel_rfl
      case ya1h => kernel_rfl
      case ya1i => kernel_rfl
      case ya1k => kernel_rfl
      case ya1j => exact fun w' h => part_addr (HSx.out w' h).1
    (try simp only [Act.put, List.getElem_toArray, List.getElem_cons_succ, List.getElem_cons_zero, List.setIfInBounds_toArray, List.set_cons_zero, List.set_cons_succ])
    refine held_step (i := 2) (by kernel_rfl) rfl (by kernel_rfl) (fun K hK => ?_)
    go_wp2_with (go_at_call 72; refine (addr_May p.a HP.out w5).mono ?_; rintro e w6 ⟨rfl, hb⟩; rw [HM.out]; have s1 := HSt.out _ _ s0 hb; clear hb)
    refine hK.out _ _ s1 ?_
    clear hK K
    (try simp only [Act.put, List.getElem_toArray, List.getElem_cons_succ, List.getElem_cons_zero, List.setIfInBounds_toArray, List.set_cons_zero, List.set_cons_succ])
    refine wpAnyH_take (i := 3) (v := .bool false) rfl (by kernel_rfl) (by kernel_rfl) (by kernel_rfl) (fun _ _ _ h => h) (Or.inl ⟨by kernel_rfl, fun w' h => by first | (go_simp; done) | (go_simp; rfl)⟩) s1 ?_
    (try simp only [Act.put, List.getElem_toArray, List.getElem_cons_succ, List.getElem_cons_zero, List.setIfInBounds_toArray, List.set_cons_zero, List.set_cons_succ])
    refine wpAnyH_take (i := 4) (v := undef) rfl (by kernel_rfl) (by kernel_rfl) (by kernel_rfl) (fun _ _ _ h => h) (Or.inr ⟨by kernel_rfl, rfl⟩) s1 ?_
    (try simp only [Act.put, List.getElem_toArray, List.getElem_cons_succ, List.getElem_cons_zero, List.setIfInBounds_toArray, List.set_cons_zero, List.set_cons_succ])
    refine wpAnyH_take (i := 5) (v := undef) rfl (by kernel_rfl) (by kernel_rfl) (by kernel_rfl) (fun _ _ _ h => h) (Or.inr ⟨by kernel_rfl, rfl⟩) s1 ?_
    (try simp only [Act.put, List.getElem_toArray, List.getElem_cons_succ, List.getElem_cons_zero, List.setIfInBounds_toArray, List.set_cons_zero, List.set_cons_succ])
    refine wpAnyH_take (i := 6) (v := undef) rfl (by kernel_rfl) (by kernel_rfl) (by kernel_rfl) (fun _ _ _ h => h) (Or.inr ⟨by kernel_rfl, rfl⟩) s1 ?_
    (try simp only [Act.put, List.getElem_toArray, List.getElem_cons_succ, List.getElem_cons_zero, List.setIfInBounds_toArray, List.set_cons_zero, List.set_cons_succ])
    refine wpAnyH_take (i := 7) (v := undef) rfl (by kernel_rfl) (by kernel_rfl) (by kernel_rfl) (fun _ _ _ h => h) (Or.inr ⟨by kernel_rfl, rfl⟩) s1 ?_
    (try simp only [Act.put, List.getElem_toArray, List.getElem_cons_succ, List.getElem_cons_zero, List.setIfInBounds_toArray, List.set_cons_zero, List.set_cons_succ])
    refine wpAnyH_take (i := 8) (v := .bool false) rfl (by kernel_rfl) (by kernel_rfl) (by kernel_rfl) (fun _ _ _ h => h) (Or.inl ⟨by kernel_rfl, fun w' h => by first | (go_simp; done) | (go_simp; rfl)⟩) s1 ?_
    (try simp only [Act.put, List.getElem_toArray, List.getElem_cons_succ, List.getElem_cons_zero, List.setIfInBounds_toArray, List.set_cons_zero, List.set_cons_succ])
    refine wpAnyH_take (i := 9) (v := .bool false) rfl (by kernel_rfl) (by kernel_rfl) (by kernel_rfl) (fun _ _ _ h => h) (Or.inl ⟨by kernel_rfl, fun w' h => by first | (go_simp; done) | (go_simp; rfl)⟩) s1 ?_
    (try simp only [Act.put, List.getElem_toArray, List.getElem_cons_succ, List.getElem_cons_zero, List.setIfInBounds_toArray, List.set_cons_zero, List.set_cons_succ])
    refine wpAnyH_take (i := 10) (v := undef) rfl (by kernel_rfl) (by kernel_rfl) (by kernel_rfl) (fun _ _ _ h => h) (Or.inr ⟨by kernel_rfl, rfl⟩) s1 ?_
    (try simp only [Act.put, List.getElem_toArray, List.getElem_cons_succ, List.getElem_cons_zero, List.setIfInBounds_toArray, List.set_cons_zero, List.set_cons_succ])
    refine wpAnyH_take (i := 11) (v := undef) rfl (by kernel_rfl) (by kernel_rfl) (by kernel_rfl) (fun _ _ _ h => h) (Or.inr ⟨by kernel_rfl, rfl⟩) s1 ?_
    (try simp only [Act.put, List.getElem_toArray, List.getElem_cons_succ, List.getElem_cons_zero, List.setIfInBounds_toArray, List.set_cons_zero, List.set_cons_succ])
    refine wpAnyH_take (i := 12) (v := undef) rfl (by kernel_rfl) (by kernel_rfl) (by kernel_rfl) (fun _ _ _ h => h) (Or.inr ⟨by kernel_rfl, rfl⟩) s1 ?_
    (try simp only [Act.put, List.getElem_toArray, List.getElem_cons_succ, List.getElem_cons_zero, List.setIfInBounds_toArray, List.set_cons_zero, List.set_cons_succ])
    refine wpAnyH_take (i := 13) (v := undef) rfl (by kernel_rfl) (by kernel_rfl) (by kernel_rfl) (fun _ _ _ h => h) (Or.inr ⟨by kernel_rfl, rfl⟩) s1 ?_
    (try simp only [Act.put, List.getElem_toArray, List.getElem_cons_succ, List.getElem_cons_zero, List.setIfInBounds_toArray, List.set_cons_zero, List.set_cons_succ])
    refine wpAnyH_take (i := 14) (v := undef) rfl (by kernel_rfl) (by kernel_rfl) (by kernel_rfl) (fun _ _ _ h => h) (Or.inr ⟨by kernel_rfl, rfl⟩) s1 ?_
    (try simp only [Act.put, List.getElem_toArray, List.getElem_cons_succ, List.getElem_cons_zero, List.setIfInBounds_toArray, List.set_cons_zero, List.set_cons_succ])
    refine wpAnyH_take (i := 15) (v := undef) rfl (by kernel_rfl) (by kernel_rfl) (by kernel_rfl) (fun _ _ _ h => h) (Or.inr ⟨by kernel_rfl, rfl⟩) s1 ?_
    (try simp only [Act.put, List.getElem_toArray, List.getElem_cons_succ, List.getElem_cons_zero, List.setIfInBounds_toArray, List.set_cons_zero, List.set_cons_succ])
    refine wpAnyH_take (i := 16) (v := undef) rfl (by kernel_rfl) (by kernel_rfl) (by kernel_rfl) (fun _ _ _ h => h) (Or.inr ⟨by kernel_rfl, rfl⟩) s1 ?_
    (try simp only [Act.put, List.getElem_toArray, List.getElem_cons_succ, List.getElem_cons_zero, List.setIfInBounds_toArray, List.set_cons_zero, List.set_cons_succ])
    refine wpAnyH_take (i := 17) (v := .bool false) rfl (by kernel_rfl) (by kernel_rfl) (by kernel_rfl) (fun _ _ _ h => h) (Or.inl ⟨by kernel_rfl, fun w' h => by first | (go_simp; done) | (go_simp; rfl)⟩) s1 ?_
    (try simp only [Act.put, List.getElem_toArray, List.getElem_cons_succ, List.getElem_cons_zero, List.setIfInBounds_toArray, List.set_cons_zero, List.set_cons_succ])
    refine held_step (i := 18) (by kernel_rfl) rfl (by kernel_rfl) (fun K hK => ?_)
    go_wp2
    refine hK.out _ _ s1 ?_
    clear hK K
    (try simp only [Act.put, List.getElem_toArray, List.getElem_cons_succ, List.getElem_cons_zero, List.setIfInBounds_toArray, List.set_cons_zero, List.set_cons_succ])
    refine wpAnyH_done (by kernel_rfl) ?_ _
    have HF := Aside0.mk (HSx.out _ s1).2
    clear s0 s1
    go_wp2
    go_ret
    exact ⟨by rw [HR2.out]; first | done | rfl, HF.out⟩
  · by_cases hz : p.a.fam = 0
    · have HM := Aside0.mk hm
      have c0b0 : (p.a.fam != 0) = false := by simpa using hz
      have c0b1 : (p.a.fam == 0) = true := by simpa using hz
      have HR2 := Aside0.mk (show mayQ p = false by rw [HR.out, hm, c0b0]; rfl)
      clear hm hz
      go_enter Try.func48, Try.ntmps48
      go_wp2_with ((with_reducible refine gate_dst (N := 1) rfl ?_); refine box_event ?hg (N := 1) ?hd (cs := eP p) (t := 39) ?hr ?_; (case hd => rfl); (case hg => rfl); (case hr => first | (go_simp; done) | (go_simp; rfl)); intro g1 hg w1 hbox hb; have HX := Aside0.mk hbox; replace HB := Aside0.mk (below_step (bel_later HB.out) hb); clear hb hg hbox)
      obtain ⟨S, hS⟩ : ∃ S : World → Prop, S = fun w' => w'.heap[g1]? = some (.cells (eP p) 39 (0, 0)) ∧ Below w.heap.size w w' := ⟨_, rfl⟩
      have HSt := Aside0.mk (show ∀ a b : World, S a → Below a.heap.size a b → S b by
        intro a b h hb
        rw [hS] at h ⊢
        exact ⟨blk_below h.1 hb, below_step h.2 hb⟩)
      have HSx := Aside0.mk (show ∀ x : World, S x → x.heap[g1]? = some (.cells (eP p) 39 (0, 0)) ∧ Below w.heap.size w x by
        intro b h
        rw [hS] at h
        exact h)
      have s0 : S w1.drew := by rw [hS]; exact ⟨blk_later HX.out, bel_later HB.out⟩
      clear hS
      refine wp_region_held_drew (S := S) (by kernel_rfl) s0 (fun _ => ?_)
      refine anyH_world s0 (fun w5 s5 => ?_)
      clear s0
      have s0 := s5
      clear s5
      refine wpAnyH_take (i := 0) (v := .pointer (some ⟨g1, 0, none⟩)) rfl (by kernel_rfl) (by kernel_rfl) (by kernel_rfl) (fun _ _ _ h => h) (Or.inl ⟨by kernel_rfl, fun w' h => by first | (go_simp; done) | (go_simp; rfl)⟩) s0 ?_
      (try simp only [Act.put, List.getElem_toArray, List.getElem_cons_succ, List.getElem_cons_zero, List.setIfInBounds_toArray, List.set_cons_zero, List.set_cons_succ])
      refine wpAnyH_take (i := 1) (v := .agg (lA p.a).toArray) rfl ?yb1b ?yb1c ?yb1d (fun _ _ _ h => h) ?yb1e s0 ?yb1f
      case yb1b => kernel_rfl
      case yb1c => kernel_rfl
      case yb1d => kernel_rfl
      case yb1e =>
        refine yieldsIf_load_mid ?yb1g 34 (.tmp 3) ?yb1h g1 0 ?yb1i (lA p.a) _ ?yb1j Try.underlying34 ?yb1k (infoL HP.out)
        case yb1g => kernel_rfl
        case yb1h => kernel_rfl
        case yb1i => kernel_rfl
        case yb1k => kernel_rfl
        case yb1j => exact fun w' h => part_addr (HSx.out w' h).1
      (try simp only [Act.put, List.getElem_toArray, List.getElem_cons_succ, List.getElem_cons_zero, List.setIfInBounds_toArray, List.set_cons_zero, List.set_cons_succ])
      refine held_step (i := 2) (by kernel_rfl) rfl (by kernel_rfl) (fun K hK => ?_)
      go_wp2_with (go_at_call 72; refine (addr_May p.a HP.out w5).mono ?_; rintro e w6 ⟨rfl, hb⟩; rw [HM.out]; have s1 := HSt.out _ _ s0 hb; clear hb)
      refine hK.out _ _ s1 ?_
      clear hK K
      (try simp only [Act.put, List.getElem_toArray, List.getElem_cons_succ, List.getElem_cons_zero, List.setIfInBounds_toArray, List.set_cons_zero, List.set_cons_succ])
      refine wpAnyH_take (i := 3) (v := .bool true) rfl (by kernel_rfl) (by kernel_rfl) (by kernel_rfl) (fun _ _ _ h => h) (Or.inl ⟨by kernel_rfl, fun w' h => by first | (go_simp; done) | (go_simp; rfl)⟩) s1 ?_
      (try simp only [Act.put, List.getElem_toArray, List.getElem_cons_succ, List.getElem_cons_zero, List.setIfInBounds_toArray, List.set_cons_zero, List.set_cons_succ])
      refine wpAnyH_take (i := 4) (v := .pointer (some ⟨g1, 0, none⟩)) rfl (by kernel_rfl) (by kernel_rfl) (by kernel_rfl) (fun _ _ _ h => h) (Or.inl ⟨by kernel_rfl, fun w' h => by first | (go_simp; done) | (go_simp; rfl)⟩) s1 ?_
      (try simp only [Act.put, List.getElem_toArray, List.getElem_cons_succ, List.getElem_cons_zero, List.setIfInBounds_toArray, List.set_cons_zero, List.set_cons_succ])
      refine wpAnyH_take (i := 5) (v := .pointer (some ⟨g1, 0, none⟩)) rfl (by kernel_rfl) (by kernel_rfl) (by kernel_rfl) (fun _ _ _ h => h) (Or.inl ⟨by kernel_rfl, fun w' h => by first | (go_simp; done) | (go_simp; rfl)⟩) s1 ?_
      (try simp only [Act.put, List.getElem_toArray, List.getElem_cons_succ, List.getElem_cons_zero, List.setIfInBounds_toArray, List.set_cons_zero, List.set_cons_succ])
      refine wpAnyH_take (i := 6) (v := .int .i64 p.a.fam) rfl (by kernel_rfl) (by kernel_rfl) (by kernel_rfl) (fun _ _ _ h => h) (Or.inl ⟨by kernel_rfl, fun w' h => by have hf := (blk_cell (HSx.out w' h).1 0).trans (eP_fam p); first | (go_simp; done) | (go_simp; rfl)⟩) s1 ?_
      (try simp only [Act.put, List.getElem_toArray, List.getElem_cons_succ, List.getElem_cons_zero, List.setIfInBounds_toArray, List.set_cons_zero, List.set_cons_succ])
      refine wpAnyH_take (i := 7) (v := .bool false) rfl (by kernel_rfl) (by kernel_rfl) (by kernel_rfl) (fun _ _ _ h => h) (Or.inl ⟨by kernel_rfl, fun w' h => by first | (go_simp; done) | (go_simp; rfl)⟩) s1 ?_
      (try simp only [Act.put, List.getElem_toArray, List.getElem_cons_succ, List.getElem_cons_zero, List.setIfInBounds_toArray, List.set_cons_zero, List.set_cons_succ])
      refine wpAnyH_take (i := 8) (v := .bool false) rfl (by kernel_rfl) (by kernel_rfl) (by kernel_rfl) (fun _ _ _ h => h) (Or.inl ⟨by kernel_rfl, fun w' h => by first | (go_simp; done) | (go_simp; rfl)⟩) s1 ?_
      (try simp only [Act.put, List.getElem_toArray, List.getElem_cons_succ, List.getElem_cons_zero, List.setIfInBounds_toArray, List.set_cons_zero, List.set_cons_succ])
      refine wpAnyH_take (i := 9) (v := .bool false) rfl (by kernel_rfl) (by kernel_rfl) (by kernel_rfl) (fun _ _ _ h => h) (Or.inl ⟨by kernel_rfl, fun w' h => by first | (go_simp; done) | (go_simp; rfl)⟩) s1 ?_
      (try simp only [Act.put, List.getElem_toArray, List.getElem_cons_succ, List.getElem_cons_zero, List.setIfInBounds_toArray, List.set_cons_zero, List.set_cons_succ])
      refine wpAnyH_take (i := 10) (v := undef) rfl (by kernel_rfl) (by kernel_rfl) (by kernel_rfl) (fun _ _ _ h => h) (Or.inr ⟨by kernel_rfl, rfl⟩) s1 ?_
      (try simp only [Act.put, List.getElem_toArray, List.getElem_cons_succ, List.getElem_cons_zero, List.setIfInBounds_toArray, List.set_cons_zero, List.set_cons_succ])
      refine wpAnyH_take (i := 11) (v := undef) rfl (by kernel_rfl) (by kernel_rfl) (by kernel_rfl) (fun _ _ _ h => h) (Or.inr ⟨by kernel_rfl, rfl⟩) s1 ?_
      (try simp only [Act.put, List.getElem_toArray, List.getElem_cons_succ, List.getElem_cons_zero, List.setIfInBounds_toArray, List.set_cons_zero, List.set_cons_succ])
      refine wpAnyH_take (i := 12) (v := undef) rfl (by kernel_rfl) (by kernel_rfl) (by kernel_rfl) (fun _ _ _ h => h) (Or.inr ⟨by kernel_rfl, rfl⟩) s1 ?_
      (try simp only [Act.put, List.getElem_toArray, List.getElem_cons_succ, List.getElem_cons_zero, List.setIfInBounds_toArray, List.set_cons_zero, List.set_cons_succ])
      refine wpAnyH_take (i := 13) (v := undef) rfl (by kernel_rfl) (by kernel_rfl) (by kernel_rfl) (fun _ _ _ h => h) (Or.inr ⟨by kernel_rfl, rfl⟩) s1 ?_
      (try simp only [Act.put, List.getElem_toArray, List.getElem_cons_succ, List.getElem_cons_zero, List.setIfInBounds_toArray, List.set_cons_zero, List.set_cons_succ])
      refine wpAnyH_take (i := 14) (v := undef) rfl (by kernel_rfl) (by kernel_rfl) (by kernel_rfl) (fun _ _ _ h => h) (Or.inr ⟨by kernel_rfl, rfl⟩) s1 ?_
      (try simp only [Act.put, List.getElem_toArray, List.getElem_cons_succ, List.getElem_cons_zero, List.setIfInBounds_toArray, List.set_cons_zero, List.set_cons_succ])
      refine wpAnyH_take (i := 15) (v := undef) rfl (by kernel_rfl) (by kernel_rfl) (by kernel_rfl) (fun _ _ _ h => h) (Or.inr ⟨by kernel_rfl, rfl⟩) s1 ?_
      (try simp only [Act.put, List.getElem_toArray, List.getElem_cons_succ, List.getElem_cons_zero, List.setIfInBounds_toArray, List.set_cons_zero, List.set_cons_succ])
      refine wpAnyH_take (i := 16) (v := undef) rfl (by kernel_rfl) (by kernel_rfl) (by kernel_rfl) (fun _ _ _ h => h) (Or.inr ⟨by kernel_rfl, rfl⟩) s1 ?_
      (try simp only [Act.put, List.getElem_toArray, List.getElem_cons_succ, List.getElem_cons_zero, List.setIfInBounds_toArray, List.set_cons_zero, List.set_cons_succ])
      refine wpAnyH_take (i := 17) (v := .bool false) rfl (by kernel_rfl) (by kernel_rfl) (by kernel_rfl) (fun _ _ _ h => h) (Or.inl ⟨by kernel_rfl, fun w' h => by first | (go_simp; done) | (go_simp; rfl)⟩) s1 ?_
      (try simp only [Act.put, List.getElem_toArray, List.getElem_cons_succ, List.getElem_cons_zero, List.setIfInBounds_toArray, List.set_cons_zero, List.set_cons_succ])
      refine held_step (i := 18) (by kernel_rfl) rfl (by kernel_rfl) (fun K hK => ?_)
      go_wp2
      refine hK.out _ _ s1 ?_
      clear hK K
      (try simp only [Act.put, List.getElem_toArray, List.getElem_cons_succ, List.getElem_cons_zero, List.setIfInBounds_toArray, List.set_cons_zero, List.set_cons_succ])
      refine wpAnyH_done (by kernel_rfl) ?_ _
      have HF := Aside0.mk (HSx.out _ s1).2
      clear s0 s1
      go_wp2
      go_ret
      exact ⟨by rw [HR2.out]; first | done | rfl, HF.out⟩
    · have HM := Aside0.mk hm
      have c0b0 : (p.a.fam != 0) = true := by simpa using hz
      have c0b1 : (p.a.fam == 0) = false := by simpa using hz
      have HR2 := Aside0.mk (show mayQ p = decide (p = maskQ p.a p.n) by rw [HR.out, hm, c0b0]; rfl)
      clear hm hz
      go_enter Try.func48, Try.ntmps48
      go_wp2_with ((with_reducible refine gate_dst (N := 1) rfl ?_); refine box_event ?hg (N := 1) ?hd (cs := eP p) (t := 39) ?hr ?_; (case hd => rfl); (case hg => rfl); (case hr => first | (go_simp; done) | (go_simp; rfl)); intro g1 hg w1 hbox hb; have HX := Aside0.mk hbox; replace HB := Aside0.mk (below_step (bel_later HB.out) hb); clear hb hg hbox)
      obtain ⟨S, hS⟩ : ∃ S : World → Prop, S = fun w' => w'.heap[g1]? = some (.cells (eP p) 39 (0, 0)) ∧ Below w.heap.size w w' := ⟨_, rfl⟩
      have HSt := Aside0.mk (show ∀ a b : World, S a → Below a.heap.size a b → S b by
        intro a b h hb
        rw [hS] at h ⊢
        exact ⟨blk_below h.1 hb, below_step h.2 hb⟩)
      have HSx := Aside0.mk (show ∀ x : World, S x → x.heap[g1]? = some (.cells (eP p) 39 (0, 0)) ∧ Below w.heap.size w x by
        intro b h
        rw [hS] at h
        exact h)
      have s0 : S w1.drew := by rw [hS]; exact ⟨blk_later HX.out, bel_later HB.out⟩
      clear hS
      refine wp_region_held_drew (S := S) (by kernel_rfl) s0 (fun _ => ?_)
      refine anyH_world s0 (fun w5 s5 => ?_)
      clear s0
      have s0 := s5
      clear s5
      refine wpAnyH_take (i := 0) (v := .pointer (some ⟨g1, 0, none⟩)) rfl (by kernel_rfl) (by kernel_rfl) (by kernel_rfl) (fun _ _ _ h => h) (Or.inl ⟨by kernel_rfl, fun w' h => by first | (go_simp; done) | (go_simp; rfl)⟩) s0 ?_
      (try simp only [Act.put, List.getElem_toArray, List.getElem_cons_succ, List.getElem_cons_zero, List.setIfInBounds_toArray, List.set_cons_zero, List.set_cons_succ])
      refine wpAnyH_take (i := 1) (v := .agg (lA p.a).toArray) rfl ?yc1b ?yc1c ?yc1d (fun _ _ _ h => h) ?yc1e s0 ?yc1f
      case yc1b => kernel_rfl
      case yc1c => kernel_rfl
      case yc1d => kernel_rfl
      case yc1e =>
        refine yieldsIf_load_mid ?yc1g 34 (.tmp 3) ?yc1h g1 0 ?yc1i (lA p.a) _ ?yc1j Try.underlying34 ?yc1k (infoL HP.out)
        case yc1g => kernel_rfl
        case yc1h => kernel_rfl
        case yc1i => kernel_rfl
        case yc1k => kernel_rfl
        case yc1j => exact fun w' h => part_addr (HSx.out w' h).1
      (try simp only [Act.put, List.getElem_toArray, List.getElem_cons_succ, List.getElem_cons_zero, List.setIfInBounds_toArray, List.set_cons_zero, List.set_cons_succ])
      refine held_step (i := 2) (by kernel_rfl) rfl (by kernel_rfl) (fun K hK => ?_)
      go_wp2_with (go_at_call 72; refine (addr_May p.a HP.out w5).mono ?_; rintro e w6 ⟨rfl, hb⟩; rw [HM.out]; have s1 := HSt.out _ _ s0 hb; clear hb)
      refine hK.out _ _ s1 ?_
      clear hK K
      (try simp only [Act.put, List.getElem_toArray, List.getElem_cons_succ, List.getElem_cons_zero, List.setIfInBounds_toArray, List.set_cons_zero, List.set_cons_succ])
      refine wpAnyH_take (i := 3) (v := .bool true) rfl (by kernel_rfl) (by kernel_rfl) (by kernel_rfl) (fun _ _ _ h => h) (Or.inl ⟨by kernel_rfl, fun w' h => by first | (go_simp; done) | (go_simp; rfl)⟩) s1 ?_
      (try simp only [Act.put, List.getElem_toArray, List.getElem_cons_succ, List.getElem_cons_zero, List.setIfInBounds_toArray, List.set_cons_zero, List.set_cons_succ])
      refine wpAnyH_take (i := 4) (v := .pointer (some ⟨g1, 0, none⟩)) rfl (by kernel_rfl) (by kernel_rfl) (by kernel_rfl) (fun _ _ _ h => h) (Or.inl ⟨by kernel_rfl, fun w' h => by first | (go_simp; done) | (go_simp; rfl)⟩) s1 ?_
      (try simp only [Act.put, List.getElem_toArray, List.getElem_cons_succ, List.getElem_cons_zero, List.setIfInBounds_toArray, List.set_cons_zero, List.set_cons_succ])
      refine wpAnyH_take (i := 5) (v := .pointer (some ⟨g1, 0, none⟩)) rfl (by kernel_rfl) (by kernel_rfl) (by kernel_rfl) (fun _ _ _ h => h) (Or.inl ⟨by kernel_rfl, fun w' h => by first | (go_simp; done) | (go_simp; rfl)⟩) s1 ?_
      (try simp only [Act.put, List.getElem_toArray, List.getElem_cons_succ, List.getElem_cons_zero, List.setIfInBounds_toArray, List.set_cons_zero, List.set_cons_succ])
      refine wpAnyH_take (i := 6) (v := .int .i64 p.a.fam) rfl (by kernel_rfl) (by kernel_rfl) (by kernel_rfl) (fun _ _ _ h => h) (Or.inl ⟨by kernel_rfl, fun w' h => by have hf := (blk_cell (HSx.out w' h).1 0).trans (eP_fam p); first | (go_simp; done) | (go_simp; rfl)⟩) s1 ?_
      (try simp only [Act.put, List.getElem_toArray, List.getElem_cons_succ, List.getElem_cons_zero, List.setIfInBounds_toArray, List.set_cons_zero, List.set_cons_succ])
      refine wpAnyH_take (i := 7) (v := .bool true) rfl (by kernel_rfl) (by kernel_rfl) (by kernel_rfl) (fun _ _ _ h => h) (Or.inl ⟨by kernel_rfl, fun w' h => by first | (go_simp; done) | (go_simp; rfl)⟩) s1 ?_
      (try simp only [Act.put, List.getElem_toArray, List.getElem_cons_succ, List.getElem_cons_zero, List.setIfInBounds_toArray, List.set_cons_zero, List.set_cons_succ])
      refine wpAnyH_take (i := 8) (v := .bool true) rfl (by kernel_rfl) (by kernel_rfl) (by kernel_rfl) (fun _ _ _ h => h) (Or.inl ⟨by kernel_rfl, fun w' h => by first | (go_simp; done) | (go_simp; rfl)⟩) s1 ?_
      (try simp only [Act.put, List.getElem_toArray, List.getElem_cons_succ, List.getElem_cons_zero, List.setIfInBounds_toArray, List.set_cons_zero, List.set_cons_succ])
      refine wpAnyH_take (i := 9) (v := .bool true) rfl (by kernel_rfl) (by kernel_rfl) (by kernel_rfl) (fun _ _ _ h => h) (Or.inl ⟨by kernel_rfl, fun w' h => by first | (go_simp; done) | (go_simp; rfl)⟩) s1 ?_
      (try simp only [Act.put, List.getElem_toArray, List.getElem_cons_succ, List.getElem_cons_zero, List.setIfInBounds_toArray, List.set_cons_zero, List.set_cons_succ])
      refine wpAnyH_take (i := 10) (v := .agg (eP p)) rfl ?x10b ?x10c ?x10d (fun _ _ _ h => h) ?x10e s1 ?x10f
      case x10b => kernel_rfl
      case x10c => kernel_rfl
      case x10d => kernel_rfl
      case x10e => exact yields_row (by kernel_rfl) 39 (.tmp 1) rfl g1 rfl 39 (eP p) (0, 0) _ (fun w' h => (HSx.out w' h).1) Try.underlying39 rfl (infoEP HP.out)
      (try simp only [Act.put, List.getElem_toArray, List.getElem_cons_succ, List.getElem_cons_zero, List.setIfInBounds_toArray, List.set_cons_zero, List.set_cons_succ])
      refine wpAnyH_take (i := 11) (v := .pointer (some ⟨g1, 0, none⟩)) rfl (by kernel_rfl) (by kernel_rfl) (by kernel_rfl) (fun _ _ _ h => h) (Or.inl ⟨by kernel_rfl, fun w' h => by first | (go_simp; done) | (go_simp; rfl)⟩) s1 ?_
      (try simp only [Act.put, List.getElem_toArray, List.getElem_cons_succ, List.getElem_cons_zero, List.setIfInBounds_toArray, List.set_cons_zero, List.set_cons_succ])
      refine wpAnyH_take (i := 12) (v := .agg (lA p.a).toArray) rfl ?x12b ?x12c ?x12d (fun _ _ _ h => h) ?x12e s1 ?x12f
      case x12b => kernel_rfl
      case x12c => kernel_rfl
      case x12d => kernel_rfl
      case x12e =>
        refine yieldsIf_load_mid ?x12g 34 (.tmp 14) ?x12h g1 0 ?x12i (lA p.a) _ ?x12j Try.underlying34 ?x12k (infoL HP.out)
        case x12g => kernel_rfl
        case x12h => kernel_rfl
        case x12i => kernel_rfl
        case x12k => kernel_rfl
        case x12j => exact fun w' h => part_addr (HSx.out w' h).1
      (try simp only [Act.put, List.getElem_toArray, List.getElem_cons_succ, List.getElem_cons_zero, List.setIfInBounds_toArray, List.set_cons_zero, List.set_cons_succ])
      refine wpAnyH_take (i := 13) (v := .pointer (some ⟨g1, 17, none⟩)) rfl (by kernel_rfl) (by kernel_rfl) (by kernel_rfl) (fun _ _ _ h => h) (Or.inl ⟨by kernel_rfl, fun w' h => by first | (go_simp; done) | (go_simp; rfl)⟩) s1 ?_
      (try simp only [Act.put, List.getElem_toArray, List.getElem_cons_succ, List.getElem_cons_zero, List.setIfInBounds_toArray, List.set_cons_zero, List.set_cons_succ])
      refine wpAnyH_take (i := 14) (v := .int .i64 p.n) rfl (by kernel_rfl) (by kernel_rfl) (by kernel_rfl) (fun _ _ _ h => h) (Or.inl ⟨by kernel_rfl, fun w' h => by have hf := (blk_cell (HSx.out w' h).1 17).trans (eP_n HP.out); first | (go_simp; done) | (go_simp; rfl)⟩) s1 ?_
      (try simp only [Act.put, List.getElem_toArray, List.getElem_cons_succ, List.getElem_cons_zero, List.setIfInBounds_toArray, List.set_cons_zero, List.set_cons_succ])
      refine held_step (i := 15) (by kernel_rfl) rfl (by kernel_rfl) (fun K hK => ?_)
      go_wp2_with (go_at_call 47; refine (cidr_Mask p.a HP.out p.n w6).mono ?_; rintro e w7 ⟨rfl, hb⟩; have s2 := HSt.out _ _ s1 hb; clear hb)
      refine hK.out _ _ s2 ?_
      clear hK K
      (try simp only [Act.put, List.getElem_toArray, List.getElem_cons_succ, List.getElem_cons_zero, List.setIfInBounds_toArray, List.set_cons_zero, List.set_cons_succ])
      refine held_step (i := 16) (by kernel_rfl) rfl (by kernel_rfl) (fun K hK => ?_)
      refine wp_value_run (run_eql_op (r := decide (p = maskQ p.a p.n)) rfl rfl rfl (by kernel_rfl) (eq_pf 9996 p (maskQ p.a p.n) HP.out HO.out _)) ?_
      refine hK.out _ _ s2 ?_
      clear hK K
      (try simp only [Act.put, List.getElem_toArray, List.getElem_cons_succ, List.getElem_cons_zero, List.setIfInBounds_toArray, List.set_cons_zero, List.set_cons_succ])
      refine held_step (i := 17) (by kernel_rfl) rfl (by kernel_rfl) (fun K hK => ?_)
      go_wp2
      refine hK.out _ _ s2 ?_
      clear hK K
      (try simp only [Act.put, List.getElem_toArray, List.getElem_cons_succ, List.getElem_cons_zero, List.setIfInBounds_toArray, List.set_cons_zero, List.set_cons_succ])
      refine held_step (i := 18) (by kernel_rfl) rfl (by kernel_rfl) (fun K hK => ?_)
      go_wp2
      refine hK.out _ _ s2 ?_
      clear hK K
      (try simp only [Act.put, List.getElem_toArray, List.getElem_cons_succ, List.getElem_cons_zero, List.setIfInBounds_toArray, List.set_cons_zero, List.set_cons_succ])
      refine wpAnyH_done (by kernel_rfl) ?_ _
      have HF := Aside0.mk (HSx.out _ s2).2
      clear s0 s1 s2
      go_wp2
      go_ret
      exact ⟨by rw [HR2.out]; first | done | rfl, HF.out⟩
end Go.Proofs.Ythjhbhgfckaklaa.P
