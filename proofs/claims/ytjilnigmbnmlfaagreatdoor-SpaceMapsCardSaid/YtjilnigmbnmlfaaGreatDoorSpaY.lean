/-
  The document's table of spaces, and an address's; law SpaceDefault.
-/
import Derived.Test.YtjilnigmbnmlfaaGreatDoorSpaX
namespace Go.Proofs.YtjilnigmbnmlfaaGreatDoor.P
open Go.RowKit Go.Proofs.YtjilnigmbnmlfaaGreatDoorW.PrintWords Go.Proofs.YtjilnigmbnmlfaaGreatDoorW.PrintLast Go.Proofs.YtjilnigmbnmlfaaGreatDoorW.PrintMore
set_option linter.unusedVariables false
set_option linter.unusedSimpArgs false
theorem fine_small {l : List En} {n : Nat} (h : Fine l n) : ∀ e ∈ l, e.p.n ≤ 1000000 := fun e he => by
  have h1 := h.may e he
  rw [mayP_iff] at h1
  have h2 := bitsOf_le e.p.a.fam
  have h3 : e.p.n ≤ bitsOf e.p.a.fam := h1.2.2.2.1
  omega
theorem ow_below {w w' : World} {u : Value} {l : List En} (h : Ow w u l) (hb : Below w.heap.size w w') : Ow w' u l := own_keep h fun g hg => hb.block g (h.lt g hg).2
theorem ref07_Of_false (u : Value) (l : List En) (a c : Ad) (ha : a.ok) (hc : c.ok) (hu : unmapA a = c) (x : En) (hx : x.p.a.ok)
    (hfd : ∀ w, Ow w u l → Calls Tryz.prog 25 #[u, .agg (eA c)] w fun r w' => r = .returned (.tuple #[.agg (eE x), .bool false]) ∧ Below w.heap.size w w') (w : World) (ho : Ow w u l) :
    Calls Tryz.prog 9 #[u, .agg (eA a)] w fun r w' => r = .returned (.int .i64 2) ∧ Below w.heap.size w w' := by
  have HB := Aside0.mk (Below.refl w.heap.size w)
  have HA := Aside0.mk ha
  have HC := Aside0.mk hc
  have HU := Aside0.mk hu
  have HX := Aside0.mk hx
  have HFD := Aside0.mk hfd
  have HOW := Aside0.mk ho
  clear ha hc hu hx hfd ho
  go_enter Tryz.func9, Tryz.ntmps9
  go_wp2_with (first
    | ((with_reducible refine gate_dst (N := 3) rfl ?_); refine box_event ?hg (N := 3) ?hd (cs := eA a) (t := 24) ?hr ?_; (case hd => rfl); (case hg => rfl); (case hr => first | (go_simp; done) | (go_simp; rfl)); intro k3 hg w2 hbox hb; have H3 := Aside0.mk hbox; replace HOW := Aside0.mk (ow_below HOW.out hb); replace HB := Aside0.mk (below_step HB.out hb); clear hb hg hbox)
    | ((with_reducible refine gate_dst (N := 9) rfl ?_); refine wpList_load_row rfl 24 (.tmp 3) rfl k3 rfl 24 (eA a) (0, 0) _ H3.out Tryz.underlying24 rfl (infoE HA.out) ?_)
    | (go_at_call 17; refine (ref04_Unmap a HA.out _).mono ?_; rintro r w3 ⟨rfl, hb⟩; rw [HU.out]; replace HOW := Aside0.mk (ow_below HOW.out hb); replace HB := Aside0.mk (below_step HB.out hb); clear hb)
    | (go_at_call 25; refine (HFD.out _ HOW.out).mono ?_; rintro r w4 ⟨rfl, hb⟩; replace HB := Aside0.mk (below_step HB.out hb); clear hb)
    | ((with_reducible refine gate_dst (N := 5) rfl ?_); refine box_event ?hg (N := 5) ?hd (cs := eE noE) (t := 60) ?hr ?_; (case hd => rfl); (case hg => rfl); (case hr => first | (go_simp; done) | (go_simp; rfl)); intro k5 hg w5 hbox hb; have H5 := Aside0.mk hbox; have HG5 := Aside0.mk (show w.heap.size ≤ k5 by rw [hg]; exact HB.out.size); replace HB := Aside0.mk (below_step HB.out hb); clear hb hg hbox)
    | ((with_reducible refine gate_store (t := 60) (p := 5) rfl ?_); refine wpList_store_row rfl 60 (.tmp 5) (.tmp 12) rfl k5 (eE x) rfl rfl 60 (eE noE) H5.out (infoEr6 HX.out) ((eE_size ok_noE).trans (eE_size HX.out).symm) (eE_one _) ?_; replace H5 := Aside0.mk (row_new (cells := eE x) H5.out); replace HB := Aside0.mk (below_row HB.out HG5.out (eE x)); generalize w5.setRow k5 (eE x) = w6 at HB H5 ⊢; have cv := val_cell HX.out H5.out))
  go_ret
  exact ⟨rfl, HB.out⟩
theorem ref07_Of_true (u : Value) (l : List En) (a c : Ad) (ha : a.ok) (hc : c.ok) (hu : unmapA a = c) (x : En) (hx : x.p.a.ok)
    (hfd : ∀ w, Ow w u l → Calls Tryz.prog 25 #[u, .agg (eA c)] w fun r w' => r = .returned (.tuple #[.agg (eE x), .bool true]) ∧ Below w.heap.size w w') (w : World) (ho : Ow w u l) :
    Calls Tryz.prog 9 #[u, .agg (eA a)] w fun r w' => r = .returned (.int .i64 x.v) ∧ Below w.heap.size w w' := by
  have HB := Aside0.mk (Below.refl w.heap.size w)
  have HA := Aside0.mk ha
  have HC := Aside0.mk hc
  have HU := Aside0.mk hu
  have HX := Aside0.mk hx
  have HFD := Aside0.mk hfd
  have HOW := Aside0.mk ho
  clear ha hc hu hx hfd ho
  go_enter Tryz.func9, Tryz.ntmps9
  go_wp2_with (first
    | ((with_reducible refine gate_dst (N := 3) rfl ?_); refine box_event ?hg (N := 3) ?hd (cs := eA a) (t := 24) ?hr ?_; (case hd => rfl); (case hg => rfl); (case hr => first | (go_simp; done) | (go_simp; rfl)); intro k3 hg w2 hbox hb; have H3 := Aside0.mk hbox; replace HOW := Aside0.mk (ow_below HOW.out hb); replace HB := Aside0.mk (below_step HB.out hb); clear hb hg hbox)
    | ((with_reducible refine gate_dst (N := 9) rfl ?_); refine wpList_load_row rfl 24 (.tmp 3) rfl k3 rfl 24 (eA a) (0, 0) _ H3.out Tryz.underlying24 rfl (infoE HA.out) ?_)
    | (go_at_call 17; refine (ref04_Unmap a HA.out _).mono ?_; rintro r w3 ⟨rfl, hb⟩; rw [HU.out]; replace HOW := Aside0.mk (ow_below HOW.out hb); replace HB := Aside0.mk (below_step HB.out hb); clear hb)
    | (go_at_call 25; refine (HFD.out _ HOW.out).mono ?_; rintro r w4 ⟨rfl, hb⟩; replace HB := Aside0.mk (below_step HB.out hb); clear hb)
    | ((with_reducible refine gate_dst (N := 5) rfl ?_); refine box_event ?hg (N := 5) ?hd (cs := eE noE) (t := 60) ?hr ?_; (case hd => rfl); (case hg => rfl); (case hr => first | (go_simp; done) | (go_simp; rfl)); intro k5 hg w5 hbox hb; have H5 := Aside0.mk hbox; have HG5 := Aside0.mk (show w.heap.size ≤ k5 by rw [hg]; exact HB.out.size); replace HB := Aside0.mk (below_step HB.out hb); clear hb hg hbox)
    | ((with_reducible refine gate_store (t := 60) (p := 5) rfl ?_); refine wpList_store_row rfl 60 (.tmp 5) (.tmp 12) rfl k5 (eE x) rfl rfl 60 (eE noE) H5.out (infoEr6 HX.out) ((eE_size ok_noE).trans (eE_size HX.out).symm) (eE_one _) ?_; replace H5 := Aside0.mk (row_new (cells := eE x) H5.out); replace HB := Aside0.mk (below_row HB.out HG5.out (eE x)); generalize w5.setRow k5 (eE x) = w6 at HB H5 ⊢; have cv := val_cell HX.out H5.out))
  go_ret
  exact ⟨rfl, HB.out⟩
theorem ref07_Of (u : Value) (l : List En) (n : Nat) (hf : Fine l n) (hn : l.length ≤ 1000) (a : Ad) (ha : a.ok) (hm : mayA a = true ∧ a.fam ≠ 0) (w : World) (ho : Ow w u l) :
    Calls Tryz.prog 9 #[u, .agg (eA a)] w fun r w' => r = .returned (.int .i64 (spOf l a)) ∧ Below w.heap.size w w' := by
  have hu := unmap_may ha hm
  have he := findQ_bestE hf.ok hf.sorted hf.may (ok_unmap ha) hu.1 hu.2
  have hfd := fun w ho => ref_Find u l hf.ok (fine_small hf) (unmapA a) (ok_unmap ha) w ho hn
  rw [← he] at hfd
  unfold spOf
  cases hq : findQ l (unmapA a) with
  | none =>
    rw [hq] at hfd
    exact ref07_Of_false u l a _ ha (ok_unmap ha) rfl noE ok_noE hfd w ho
  | some x =>
    rw [hq] at hfd
    have hx := ok_findQ hf.ok (unmapA a)
    rw [hq] at hx
    exact ref07_Of_true u l a _ ha (ok_unmap ha) rfl x hx hfd w ho
/-! ### the document's first table -/
theorem ow_nil (w : World) : Ow w (.slice none 0 0) [] := World.ownsRow_nil w 0 60 19
theorem ow_row {w : World} {u : Value} {l : List En} {g : Nat} {cells : Array Value} {t : TypeId} {cs : Array Value} (h : Ow w u l) (hg : w.heap[g]? = some (.cells cs t (0, 0))) (ht : t ≠ 60) : Ow (w.setRow g cells) u l :=
  own_keep h fun k hk => row_far (fun e => by subst e; exact own_block_ne h hg ht hk)
end Go.Proofs.YtjilnigmbnmlfaaGreatDoor.P
