/-
  Texts of the proof, put together.
-/
import Derived.Test.YthdognlkacjkhaaGreatDoorM9
import Derived.Test.YthdognlkacjkhaaGreatDoorM10
section
namespace Go.Proofs.YthdognlkacjkhaaGreatDoor.P
open Go.RowKit Go.Proofs.YthdognlkacjkhaaGreatDoorW.PrintWords Go.Proofs.YthdognlkacjkhaaGreatDoorW.PrintLast Go.Proofs.YthdognlkacjkhaaGreatDoorW.PrintMore
set_option linter.unusedVariables false
set_option linter.unusedSimpArgs false
/-- What addr.Parse hands back at a text: this address. -/
def AdOk (s : ByteArray) (a : Ad) : Prop := ∀ w : World, MaxIs w → Calls Tryz.prog 37 #[.string s] w fun e w' => e = .returned (.tuple #[.agg (eA a), .bool true]) ∧ Below w.heap.size w w'
set_option maxHeartbeats 4000000 in
set_option maxRecDepth 100000 in
theorem addr_Parse4 (s : ByteArray) (n : Int) (h0 : 0 ≤ n) (h1 : n < 4294967296) (hs : ∀ w : World, MaxIs w → Calls Tryz.prog 63 #[.string s] w fun e w' => e = .returned (.tuple #[.int .u32 n, .bool true]) ∧ Below w.heap.size w w') : AdOk s (of4 n) := fun w hmx => by
  have HB := Aside0.mk (Below.refl w.heap.size w)
  have HMX := Aside0.mk hmx
  have HS := Aside0.mk hs
  have HO := Aside0.mk (ok_of4 n)
  clear hmx hs
  go_enter Tryz.func37, Tryz.ntmps37
  go_wp2_with (first
    | ((with_reducible refine gate_dst (N := 2) rfl ?_); refine box_event ?hg (N := 2) ?hd (cs := eA noA) (t := 30) ?hr ?_; (case hd => rfl); (case hg => rfl); (case hr => first | (go_simp; done) | (go_simp; rfl)); intro k2 hg w2 hbox hb; have H2 := Aside0.mk hbox; have HG2 := Aside0.mk (show w.heap.size ≤ k2 by rw [hg]; exact HB.out.size); skip; replace HB := Aside0.mk (below_step HB.out hb); clear hb hg hbox)
    | (go_at_call 63; refine (HS.out _ (maxis_below HMX.out HB.out)).mono ?_; rintro e w3 ⟨rfl, hb⟩; replace H2 := Aside0.mk (blk_below H2.out hb); replace HB := Aside0.mk (below_step HB.out hb); clear hb)
    | (go_at_call 64; refine (addr_Of4 n h0 h1 _).mono ?_; rintro e w4 ⟨rfl, hb⟩; replace H2 := Aside0.mk (blk_below H2.out hb); replace HB := Aside0.mk (below_step HB.out hb); clear hb)
    | ((with_reducible refine gate_store (t := 30) (p := 2) rfl ?_); refine wpList_store_row rfl 30 (.tmp 2) (.tmp 15) rfl k2 (eA (of4 n)) rfl rfl 30 (eA noA) H2.out (infoE HO.out) ((eA_size ok_noA).trans (eA_size HO.out).symm) (eA_one _) ?_; replace H2 := Aside0.mk (row_new (cells := eA (of4 n)) H2.out); replace HB := Aside0.mk (below_row HB.out HG2.out (eA (of4 n))); generalize w4.setRow k2 (eA (of4 n)) = w5 at HB H2 ⊢))
  refine bodyPost_ret (results_cell_tmp rfl _ _ k2 30 (eA (of4 n)) (0, 0) _ rfl H2.out Tryz.underlying30 rfl (infoE HO.out)) rfl ?_
  exact ⟨rfl, HB.out⟩
set_option maxHeartbeats 4000000 in
set_option maxRecDepth 100000 in
theorem addr_Parse6 (s : ByteArray) (g0 g1 g2 g3 g4 g5 g6 g7 : Int) (hr : ∀ x ∈ ([g0, g1, g2, g3, g4, g5, g6, g7] : List Int), 0 ≤ x ∧ x ≤ 65535) (hs : ∀ w : World, Calls Tryz.prog 63 #[.string s] w fun e w' => e = .returned (.tuple #[.int .u32 0, .bool false]) ∧ Below w.heap.size w w')
    (h6 : ∀ w : World, MaxIs w → Calls Tryz.prog 65 #[.string s] w fun e w' => e = .returned (.tuple #[.agg (e8 [g0, g1, g2, g3, g4, g5, g6, g7]), .bool true]) ∧ Below w.heap.size w w') : AdOk s (of6 [g0, g1, g2, g3, g4, g5, g6, g7]) := fun w hmx => by
  have HB := Aside0.mk (Below.refl w.heap.size w)
  have HMX := Aside0.mk hmx
  have HS := Aside0.mk hs
  have H6 := Aside0.mk h6
  have HR := Aside0.mk hr
  have HO := Aside0.mk (ok_of6 g0 g1 g2 g3 g4 g5 g6 g7)
  clear hmx hs h6 hr
  go_enter Tryz.func37, Tryz.ntmps37
  go_wp2_with (first
    | ((with_reducible refine gate_dst (N := 2) rfl ?_); refine box_event ?hg (N := 2) ?hd (cs := eA noA) (t := 30) ?hr ?_; (case hd => rfl); (case hg => rfl); (case hr => first | (go_simp; done) | (go_simp; rfl)); intro k2 hg w2 hbox hb; have H2 := Aside0.mk hbox; have HG2 := Aside0.mk (show w.heap.size ≤ k2 by rw [hg]; exact HB.out.size); skip; replace HB := Aside0.mk (below_step HB.out hb); clear hb hg hbox)
    | (go_at_call 63; refine (HS.out _).mono ?_; rintro e w3 ⟨rfl, hb⟩; replace H2 := Aside0.mk (blk_below H2.out hb); replace HB := Aside0.mk (below_step HB.out hb); clear hb)
    | (go_at_call 65; refine (H6.out _ (maxis_below HMX.out HB.out)).mono ?_; rintro e w4 ⟨rfl, hb⟩; replace H2 := Aside0.mk (blk_below H2.out hb); replace HB := Aside0.mk (below_step HB.out hb); clear hb)
    | ((with_reducible refine gate_dst (N := 6) rfl ?_); refine box_event ?hg (N := 6) ?hd (cs := e8 zr8) (t := 76) ?hr ?_; (case hd => rfl); (case hg => rfl); (case hr => first | (go_simp; done) | (go_simp; rfl)); intro k6 hg w5 hbox hb; have HX := Aside0.mk hbox; have HG6 := Aside0.mk (show w.heap.size ≤ k6 by rw [hg]; exact HB.out.size); have HN26 := Aside0.mk (show k2 ≠ k6 by have := (Array.getElem?_eq_some_iff.1 H2.out).1; omega); replace H2 := Aside0.mk (blk_below H2.out hb); replace HB := Aside0.mk (below_step HB.out hb); clear hb hg hbox)
    | ((with_reducible refine gate_store (t := 76) (p := 6) rfl ?_); refine wpList_store_row rfl 76 (.tmp 6) (.tmp 19) rfl k6 (e8 [g0, g1, g2, g3, g4, g5, g6, g7]) rfl rfl 76 (e8 zr8) HX.out (inf8 rfl) (rfl) (e8_one _) ?_; replace H2 := Aside0.mk ((row_far (cells := e8 [g0, g1, g2, g3, g4, g5, g6, g7]) HN26.out).trans H2.out); replace HX := Aside0.mk (row_new (cells := e8 [g0, g1, g2, g3, g4, g5, g6, g7]) HX.out); replace HB := Aside0.mk (below_row HB.out HG6.out (e8 [g0, g1, g2, g3, g4, g5, g6, g7])); generalize w5.setRow k6 (e8 [g0, g1, g2, g3, g4, g5, g6, g7]) = w6 at HB HX H2 ⊢)
    | ((with_reducible refine gate_dst (N := 22) rfl ?_); refine wpList_load_row rfl 76 (.tmp 6) rfl k6 rfl 76 (e8 [g0, g1, g2, g3, g4, g5, g6, g7]) (0, 0) _ HX.out Tryz.underlying76 rfl (inf8 rfl) ?_)
    | (go_at_call 66; refine (addr_Of6 g0 g1 g2 g3 g4 g5 g6 g7 HR.out _).mono ?_; rintro e w7 ⟨rfl, hb⟩; replace H2 := Aside0.mk (blk_below H2.out hb); replace HB := Aside0.mk (below_step HB.out hb); clear hb)
    | ((with_reducible refine gate_store (t := 30) (p := 2) rfl ?_); refine wpList_store_row rfl 30 (.tmp 2) (.tmp 23) rfl k2 (eA (of6 [g0, g1, g2, g3, g4, g5, g6, g7])) rfl rfl 30 (eA noA) H2.out (infoE HO.out) ((eA_size ok_noA).trans (eA_size HO.out).symm) (eA_one _) ?_; replace H2 := Aside0.mk (row_new (cells := eA (of6 [g0, g1, g2, g3, g4, g5, g6, g7])) H2.out); replace HB := Aside0.mk (below_row HB.out HG2.out (eA (of6 [g0, g1, g2, g3, g4, g5, g6, g7]))); generalize w7.setRow k2 (eA (of6 [g0, g1, g2, g3, g4, g5, g6, g7])) = w8 at HB H2 ⊢))
  refine bodyPost_ret (results_cell_tmp rfl _ _ k2 30 (eA (of6 [g0, g1, g2, g3, g4, g5, g6, g7])) (0, 0) _ rfl H2.out Tryz.underlying30 rfl (infoE HO.out)) rfl ?_
  exact ⟨rfl, HB.out⟩
set_option maxHeartbeats 4000000 in
set_option maxRecDepth 100000 in
theorem cidr_Parse (s h d : ByteArray) (at_ : Nat) (a : Ad) (n : Int) (hat : strings_LastIndexByte.f s 47 = some (at_ : Int)) (hsz : s.size ≤ 1000) (hlt : at_ + 1 ≤ s.size) (hh : s.extract 0 at_ = h) (hd : s.extract (at_ + 1) s.size = d) (ha : AdOk h a) (hn : text_Number.f d 10 = some (n, true)) (hdec : text_Decimal.f n = some d) (hok : a.ok) (hm : mayQ ⟨a, n⟩ = true) (w : World) (hmx : MaxIs w) :
    Calls Tryz.prog 21 #[.string s] w fun e w' => e = .returned (.tuple #[.agg (eP ⟨a, n⟩), .int .i64 0]) ∧ Below w.heap.size w w' := by
  have HB := Aside0.mk (Below.refl w.heap.size w)
  have HMX := Aside0.mk hmx
  have HAT := Aside0.mk hat
  have HA := Aside0.mk ha
  have HN := Aside0.mk hn
  have HD := Aside0.mk hdec
  have HO := Aside0.mk hok
  have HM := Aside0.mk hm
  have i0 : (0 : Int) ≤ (at_ : Int) := Int.natCast_nonneg _
  have i1 : decide ((at_ : Int) < 0) = false := decide_eq_false (by omega)
  have i2 : (at_ : Int) ≤ (s.size : Int) := by omega
  have i3 : wrap64 ((at_ : Int) + 1) = ((at_ + 1 : Nat) : Int) := by unfold wrap64; omega
  have i4 : ((at_ + 1 : Nat) : Int) ≤ (s.size : Int) := by omega
  have i5 : IntKind.i64.wrap ((at_ : Int) + 1) = (at_ : Int) + 1 := by rw [IntKind.wrap_i64]; omega
  have i6 : 0 ≤ (at_ : Int) + 1 ∧ (at_ : Int) + 1 ≤ (s.size : Int) := by omega
  have HMY := Aside0.mk (show ∀ w, Calls Tryz.prog 40 #[.agg (eP ⟨a, n⟩)] w fun e w' => e = .returned (.bool true) ∧ Below w.heap.size w w' by rw [← hm]; exact fun w => cidr_May ⟨a, n⟩ hok w)
  clear hmx hat ha hn hdec hok hm
  go_enter Tryz.func21, Tryz.ntmps21
  go_wp2_with (first
    | ((with_reducible refine gate_dst (N := 2) rfl ?_); refine box_event ?hg (N := 2) ?hd (cs := eP noP) (t := 42) ?hr ?_; (case hd => rfl); (case hg => rfl); (case hr => first | (go_simp; done) | (go_simp; rfl)); intro k2 hg w2 hbox hb; have H2 := Aside0.mk hbox; have HG2 := Aside0.mk (show w.heap.size ≤ k2 by rw [hg]; exact HB.out.size); skip; replace HB := Aside0.mk (below_step HB.out hb); clear hb hg hbox)
    | (go_at_call 36; refine (strings_LastIndexByte.calls s 47 _ _ HAT.out).mono ?_; rintro e w3 ⟨rfl, hb⟩; replace H2 := Aside0.mk (blk_below H2.out hb); replace HB := Aside0.mk (below_step HB.out hb); clear hb)
    | (go_at_call 37; (try rw [hh]); refine (HA.out _ (maxis_below HMX.out HB.out)).mono ?_; rintro e w4 ⟨rfl, hb⟩; replace H2 := Aside0.mk (blk_below H2.out hb); replace HB := Aside0.mk (below_step HB.out hb); clear hb)
    | ((with_reducible refine gate_dst (N := 5) rfl ?_); refine box_event ?hg (N := 5) ?hd (cs := eA noA) (t := 30) ?hr ?_; (case hd => rfl); (case hg => rfl); (case hr => first | (go_simp; done) | (go_simp; rfl)); intro k5 hg w5 hbox hb; have H5 := Aside0.mk hbox; have HG5 := Aside0.mk (show w.heap.size ≤ k5 by rw [hg]; exact HB.out.size); have HN25 := Aside0.mk (show k2 ≠ k5 by have := (Array.getElem?_eq_some_iff.1 H2.out).1; omega); replace H2 := Aside0.mk (blk_below H2.out hb); replace HB := Aside0.mk (below_step HB.out hb); clear hb hg hbox)
    | ((with_reducible refine gate_store (t := 30) (p := 5) rfl ?_); refine wpList_store_row rfl 30 (.tmp 5) (.tmp 20) rfl k5 (eA a) rfl rfl 30 (eA noA) H5.out (infoE HO.out) ((eA_size ok_noA).trans (eA_size HO.out).symm) (eA_one _) ?_; replace H2 := Aside0.mk ((row_far (cells := eA a) HN25.out).trans H2.out); replace H5 := Aside0.mk (row_new (cells := eA a) H5.out); replace HB := Aside0.mk (below_row HB.out HG5.out (eA a)); generalize w5.setRow k5 (eA a) = w6 at HB H5 H2 ⊢)
    | (go_at_call 38; refine (text_Number.calls d 10 n true _ HN.out).mono ?_; rintro e w7 ⟨rfl, hb⟩; replace H5 := Aside0.mk (blk_below H5.out hb); replace H2 := Aside0.mk (blk_below H2.out hb); replace HB := Aside0.mk (below_step HB.out hb); clear hb)
    | ((with_reducible refine gate_dst (N := 30) rfl ?_); refine wpList_load_row rfl 30 (.tmp 5) rfl k5 rfl 30 (eA a) (0, 0) _ H5.out Tryz.underlying30 rfl (infoE HO.out) ?_)
    | ((with_reducible refine gate_dst (N := 32) rfl ?_); refine wpList_buildTo rfl 42 _ rfl _ rfl (eP ⟨a, n⟩) ?hbb ?_; (case hbb => rw [List.map_toArray]; exact built_pf HO.out n))
    | ((with_reducible refine gate_dst (N := 9) rfl ?_); refine box_event ?hg (N := 9) ?hd (cs := eP noP) (t := 42) ?hr ?_; (case hd => rfl); (case hg => rfl); (case hr => first | (go_simp; done) | (go_simp; rfl)); intro k9 hg w8 hbox hb; have H9 := Aside0.mk hbox; have HG9 := Aside0.mk (show w.heap.size ≤ k9 by rw [hg]; exact HB.out.size); have HN29 := Aside0.mk (show k2 ≠ k9 by have := (Array.getElem?_eq_some_iff.1 H2.out).1; omega); replace H2 := Aside0.mk (blk_below H2.out hb); replace HB := Aside0.mk (below_step HB.out hb); clear hb hg hbox)
    | ((with_reducible refine gate_store (t := 42) (p := 9) rfl ?_); refine wpList_store_row rfl 42 (.tmp 9) (.tmp 32) rfl k9 (eP ⟨a, n⟩) rfl rfl 42 (eP noP) H9.out (infoEP (p := ⟨a, n⟩) HO.out) ((show (eP noP).size = 18 from rfl).trans (eP_size (p := ⟨a, n⟩) HO.out).symm) (eP_one _) ?_; replace H2 := Aside0.mk ((row_far (cells := eP ⟨a, n⟩) HN29.out).trans H2.out); replace H9 := Aside0.mk (row_new (cells := eP ⟨a, n⟩) H9.out); replace HB := Aside0.mk (below_row HB.out HG9.out (eP ⟨a, n⟩)); generalize w8.setRow k9 (eP ⟨a, n⟩) = w9 at HB H9 H2 ⊢))
  obtain ⟨S, hS⟩ : ∃ S : World → Prop, S = fun w' => w'.heap[k2]? = some (.cells (eP noP) 42 (0, 0)) ∧ w'.heap[k9]? = some (.cells (eP ⟨a, n⟩) 42 (0, 0)) ∧ Below w.heap.size w w' := ⟨_, rfl⟩
  have HSx := Aside0.mk (show ∀ x : World, S x → x.heap[k2]? = some (.cells (eP noP) 42 (0, 0)) ∧ x.heap[k9]? = some (.cells (eP ⟨a, n⟩) 42 (0, 0)) ∧ Below w.heap.size w x by intro b h; rw [hS] at h; exact h)
  have HSt := Aside0.mk (show ∀ a b : World, S a → Below a.heap.size a b → S b by
    intro a b h hb
    rw [hS] at h ⊢
    exact ⟨blk_below h.1 hb, blk_below h.2.1 hb, below_step h.2.2 hb⟩)
  have s0 : S w9.drew := by rw [hS]; exact ⟨blk_later H2.out, blk_later H9.out, bel_later HB.out⟩
  clear hS
  refine wp_region_held_drew (S := S) (by kernel_rfl) s0 (fun _ => ?_)
  refine anyH_world s0 (fun x0 s5 => ?_)
  clear s0
  have s0 := s5
  clear s5
  refine wpAnyH_take (i := 0) (v := .bool true) rfl (by kernel_rfl) (by kernel_rfl) (by kernel_rfl) (fun _ _ _ h => h) (Or.inl ⟨by kernel_rfl, fun w' h => by first | (go_simp; done) | (go_simp; rfl)⟩) s0 ?_
  (try simp only [Act.put, List.getElem_toArray, List.getElem_cons_succ, List.getElem_cons_zero, List.setIfInBounds_toArray, List.set_cons_zero, List.set_cons_succ])
  refine wpAnyH_take (i := 1) (v := .bool false) rfl (by kernel_rfl) (by kernel_rfl) (by kernel_rfl) (fun _ _ _ h => h) (Or.inl ⟨by kernel_rfl, fun w' h => by first | (go_simp; done) | (go_simp; rfl)⟩) s0 ?_
  (try simp only [Act.put, List.getElem_toArray, List.getElem_cons_succ, List.getElem_cons_zero, List.setIfInBounds_toArray, List.set_cons_zero, List.set_cons_succ])
  refine wpAnyH_take (i := 2) (v := .bool false) rfl (by kernel_rfl) (by kernel_rfl) (by kernel_rfl) (fun _ _ _ h => h) (Or.inl ⟨by kernel_rfl, fun w' h => by first | (go_simp; done) | (go_simp; rfl)⟩) s0 ?_
  (try simp only [Act.put, List.getElem_toArray, List.getElem_cons_succ, List.getElem_cons_zero, List.setIfInBounds_toArray, List.set_cons_zero, List.set_cons_succ])
  refine wpAnyH_take (i := 3) (v := .bool true) rfl (by kernel_rfl) (by kernel_rfl) (by kernel_rfl) (fun _ _ _ h => h) (Or.inl ⟨by kernel_rfl, fun w' h => by first | (go_simp; done) | (go_simp; rfl)⟩) s0 ?_
  (try simp only [Act.put, List.getElem_toArray, List.getElem_cons_succ, List.getElem_cons_zero, List.setIfInBounds_toArray, List.set_cons_zero, List.set_cons_succ])
  refine wpAnyH_take (i := 4) (v := .bool false) rfl (by kernel_rfl) (by kernel_rfl) (by kernel_rfl) (fun _ _ _ h => h) (Or.inl ⟨by kernel_rfl, fun w' h => by first | (go_simp; done) | (go_simp; rfl)⟩) s0 ?_
  (try simp only [Act.put, List.getElem_toArray, List.getElem_cons_succ, List.getElem_cons_zero, List.setIfInBounds_toArray, List.set_cons_zero, List.set_cons_succ])
  refine wpAnyH_take (i := 5) (v := .bool false) rfl (by kernel_rfl) (by kernel_rfl) (by kernel_rfl) (fun _ _ _ h => h) (Or.inl ⟨by kernel_rfl, fun w' h => by first | (go_simp; done) | (go_simp; rfl)⟩) s0 ?_
  (try simp only [Act.put, List.getElem_toArray, List.getElem_cons_succ, List.getElem_cons_zero, List.setIfInBounds_toArray, List.set_cons_zero, List.set_cons_succ])
  refine wpAnyH_take (i := 6) (v := .bool false) rfl (by kernel_rfl) (by kernel_rfl) (by kernel_rfl) (fun _ _ _ h => h) (Or.inl ⟨by kernel_rfl, fun w' h => by first | (go_simp; done) | (go_simp; rfl)⟩) s0 ?_
  (try simp only [Act.put, List.getElem_toArray, List.getElem_cons_succ, List.getElem_cons_zero, List.setIfInBounds_toArray, List.set_cons_zero, List.set_cons_succ])
  refine wpAnyH_take (i := 7) (v := .int .i64 n) rfl (by kernel_rfl) (by kernel_rfl) (by kernel_rfl) (fun _ _ _ h => h) (Or.inl ⟨by kernel_rfl, fun w' h => by first | (go_simp; done) | (go_simp; rfl)⟩) s0 ?_
  (try simp only [Act.put, List.getElem_toArray, List.getElem_cons_succ, List.getElem_cons_zero, List.setIfInBounds_toArray, List.set_cons_zero, List.set_cons_succ])
  refine wpAnyH_take (i := 9) (v := .string s) rfl (by kernel_rfl) (by kernel_rfl) (by kernel_rfl) (fun _ _ _ h => h) (Or.inl ⟨by kernel_rfl, fun w' h => by first | (go_simp; done) | (go_simp; rfl)⟩) s0 ?_
  (try simp only [Act.put, List.getElem_toArray, List.getElem_cons_succ, List.getElem_cons_zero, List.setIfInBounds_toArray, List.set_cons_zero, List.set_cons_succ])
  refine wpAnyH_take (i := 10) (v := .int .i64 (at_ : Int)) rfl (by kernel_rfl) (by kernel_rfl) (by kernel_rfl) (fun _ _ _ h => h) (Or.inl ⟨by kernel_rfl, fun w' h => by first | (go_simp; done) | (go_simp; rfl)⟩) s0 ?_
  (try simp only [Act.put, List.getElem_toArray, List.getElem_cons_succ, List.getElem_cons_zero, List.setIfInBounds_toArray, List.set_cons_zero, List.set_cons_succ])
  refine wpAnyH_take (i := 11) (v := .int .i64 ((at_ : Int) + 1)) rfl (by kernel_rfl) (by kernel_rfl) (by kernel_rfl) (fun _ _ _ h => h) (Or.inl ⟨by kernel_rfl, fun w' h => by have hf := i5; first | (go_simp; done) | (go_simp; rfl)⟩) s0 ?_
  (try simp only [Act.put, List.getElem_toArray, List.getElem_cons_succ, List.getElem_cons_zero, List.setIfInBounds_toArray, List.set_cons_zero, List.set_cons_succ])
  refine wpAnyH_take (i := 12) (v := .string d) rfl (by kernel_rfl) (by kernel_rfl) (by kernel_rfl) (fun _ _ _ h => h) (Or.inl ⟨by kernel_rfl, fun w' h => by have hf := i6; first | (go_simp; done) | (go_simp; rfl)⟩) s0 ?_
  (try simp only [Act.put, List.getElem_toArray, List.getElem_cons_succ, List.getElem_cons_zero, List.setIfInBounds_toArray, List.set_cons_zero, List.set_cons_succ])
  refine held_step (i := 8) (by kernel_rfl) rfl (by kernel_rfl) (fun K hK => ?_)
  go_wp2_with (go_at_call 39; refine (text_Decimal.calls n d _ (maxis_below HMX.out (HSx.out _ s0).2.2) HD.out).mono ?_; rintro r x1 ⟨rfl, hb⟩; have s1 := HSt.out _ _ s0 hb; clear hb)
  refine hK.out _ _ s1 ?_
  clear hK K
  (try simp only [Act.put, List.getElem_toArray, List.getElem_cons_succ, List.getElem_cons_zero, List.setIfInBounds_toArray, List.set_cons_zero, List.set_cons_succ])
  refine wpAnyH_take (i := 13) (v := .bool false) rfl (by kernel_rfl) (by kernel_rfl) (by kernel_rfl) (fun _ _ _ h => h) (Or.inl ⟨by kernel_rfl, fun w' h => by first | (go_simp; done) | (go_simp; rfl)⟩) s1 ?_
  (try simp only [Act.put, List.getElem_toArray, List.getElem_cons_succ, List.getElem_cons_zero, List.setIfInBounds_toArray, List.set_cons_zero, List.set_cons_succ])
  refine wpAnyH_take (i := 14) (v := .bool false) rfl (by kernel_rfl) (by kernel_rfl) (by kernel_rfl) (fun _ _ _ h => h) (Or.inl ⟨by kernel_rfl, fun w' h => by first | (go_simp; done) | (go_simp; rfl)⟩) s1 ?_
  (try simp only [Act.put, List.getElem_toArray, List.getElem_cons_succ, List.getElem_cons_zero, List.setIfInBounds_toArray, List.set_cons_zero, List.set_cons_succ])
  refine wpAnyH_take (i := 15) (v := .bool false) rfl (by kernel_rfl) (by kernel_rfl) (by kernel_rfl) (fun _ _ _ h => h) (Or.inl ⟨by kernel_rfl, fun w' h => by first | (go_simp; done) | (go_simp; rfl)⟩) s1 ?_
  (try simp only [Act.put, List.getElem_toArray, List.getElem_cons_succ, List.getElem_cons_zero, List.setIfInBounds_toArray, List.set_cons_zero, List.set_cons_succ])
  refine wpAnyH_done (by kernel_rfl) ?_ _
  replace H2 := Aside0.mk (HSx.out _ s1).1
  replace H9 := Aside0.mk (HSx.out _ s1).2.1
  replace HB := Aside0.mk (HSx.out _ s1).2.2
  clear s0 s1
  go_wp2_with (first
    | ((with_reducible refine gate_dst (N := 51) rfl ?_); refine wpList_load_row rfl 42 (.tmp 9) rfl k9 rfl 42 (eP ⟨a, n⟩) (0, 0) _ H9.out Tryz.underlying42 rfl (infoEP (p := ⟨a, n⟩) HO.out) ?_)
    | (go_at_call 40; refine (HMY.out _).mono ?_; rintro e x2 ⟨rfl, hb⟩; replace H9 := Aside0.mk (blk_below H9.out hb); replace H2 := Aside0.mk (blk_below H2.out hb); replace HB := Aside0.mk (below_step HB.out hb); clear hb)
    | ((with_reducible refine gate_dst (N := 55) rfl ?_); refine wpList_load_row rfl 42 (.tmp 9) rfl k9 rfl 42 (eP ⟨a, n⟩) (0, 0) _ H9.out Tryz.underlying42 rfl (infoEP (p := ⟨a, n⟩) HO.out) ?_)
    | ((with_reducible refine gate_store (t := 42) (p := 2) rfl ?_); refine wpList_store_row rfl 42 (.tmp 2) (.tmp 55) rfl k2 (eP ⟨a, n⟩) rfl rfl 42 (eP noP) H2.out (infoEP (p := ⟨a, n⟩) HO.out) ((show (eP noP).size = 18 from rfl).trans (eP_size (p := ⟨a, n⟩) HO.out).symm) (eP_one _) ?_; replace H2 := Aside0.mk (row_new (cells := eP ⟨a, n⟩) H2.out); replace HB := Aside0.mk (below_row HB.out HG2.out (eP ⟨a, n⟩)); generalize x2.setRow k2 (eP ⟨a, n⟩) = x3 at HB H2 ⊢))
  refine bodyPost_ret (results_cell_tmp rfl _ _ k2 42 (eP ⟨a, n⟩) (0, 0) _ rfl H2.out Tryz.underlying42 rfl (infoEP (p := ⟨a, n⟩) HO.out)) rfl ?_
  exact ⟨rfl, HB.out⟩
/-- What cidr.Parse hands back at a text: this prefix. -/
structure PfOk (s : ByteArray) (p : Pf) : Prop where
  ok : p.a.ok
  may : mayQ p = true
  run : ∀ w : World, MaxIs w → Calls Tryz.prog 21 #[.string s] w fun e w' => e = .returned (.tuple #[.agg (eP p), .int .i64 0]) ∧ Below w.heap.size w w'
theorem adOk0 : AdOk ⟨#[49, 50, 55, 46, 48, 46, 48, 46, 48]⟩ (of4 2130706432) := addr_Parse4 ⟨#[49, 50, 55, 46, 48, 46, 48, 46, 48]⟩ 2130706432 (by decide) (by decide) (fun w hm => (show fourN [127, 0, 0, 0] 4 = 2130706432 by decide) ▸ four_Strict_yes 50 ⟨#[49, 50, 55, 46, 48, 46, 48, 46, 48]⟩ ⟨#[49, 50, 55]⟩ ⟨#[48]⟩ ⟨#[48]⟩ ⟨#[48]⟩ 127 0 0 0 (by decide +kernel) ⟨(by decide +kernel), (by decide +kernel), by decide, by decide⟩ ⟨(by decide +kernel), (by decide +kernel), by decide, by decide⟩ ⟨(by decide +kernel), (by decide +kernel), by decide, by decide⟩ ⟨(by decide +kernel), (by decide +kernel), by decide, by decide⟩ w hm)
theorem pfOk0 : PfOk ⟨#[49, 50, 55, 46, 48, 46, 48, 46, 48, 47, 56]⟩ ⟨of4 2130706432, 8⟩ :=
  have hm : mayQ ⟨of4 2130706432, 8⟩ = true := by decide +kernel
  ⟨ok_of4 2130706432, hm, fun w hx => cidr_Parse ⟨#[49, 50, 55, 46, 48, 46, 48, 46, 48, 47, 56]⟩ ⟨#[49, 50, 55, 46, 48, 46, 48, 46, 48]⟩ ⟨#[56]⟩ 9 (of4 2130706432) 8 (by decide +kernel) (by decide) (by decide) (by decide +kernel) (by decide +kernel) adOk0 (by decide +kernel) (by decide +kernel) (ok_of4 2130706432) hm w hx⟩
theorem adOk1 : AdOk ⟨#[58, 58, 49]⟩ (of6 [0, 0, 0, 0, 0, 0, 0, 1]) := addr_Parse6 ⟨#[58, 58, 49]⟩ 0 0 0 0 0 0 0 1 (by decide) (fun w => four_Strict_no 50 ⟨#[58, 58, 49]⟩ [⟨#[58, 58, 49]⟩] (by decide +kernel) (by decide) w) (fun w hm => six_Parse_ob ⟨#[58, 58, 49]⟩ ⟨#[49]⟩ 1 ⟨(by decide +kernel), ⟨50, (by decide +kernel)⟩, (by decide +kernel), by decide, (by decide +kernel), by decide, by decide⟩ (by decide +kernel) w hm)
theorem pfOk1 : PfOk ⟨#[58, 58, 49, 47, 49, 50, 56]⟩ ⟨of6 [0, 0, 0, 0, 0, 0, 0, 1], 128⟩ :=
  have hm : mayQ ⟨of6 [0, 0, 0, 0, 0, 0, 0, 1], 128⟩ = true := by decide +kernel
  ⟨ok_of6 0 0 0 0 0 0 0 1, hm, fun w hx => cidr_Parse ⟨#[58, 58, 49, 47, 49, 50, 56]⟩ ⟨#[58, 58, 49]⟩ ⟨#[49, 50, 56]⟩ 3 (of6 [0, 0, 0, 0, 0, 0, 0, 1]) 128 (by decide +kernel) (by decide) (by decide) (by decide +kernel) (by decide +kernel) adOk1 (by decide +kernel) (by decide +kernel) (ok_of6 0 0 0 0 0 0 0 1) hm w hx⟩
theorem adOk2 : AdOk ⟨#[48, 46, 48, 46, 48, 46, 48]⟩ (of4 0) := addr_Parse4 ⟨#[48, 46, 48, 46, 48, 46, 48]⟩ 0 (by decide) (by decide) (fun w hm => (show fourN [0, 0, 0, 0] 4 = 0 by decide) ▸ four_Strict_yes 50 ⟨#[48, 46, 48, 46, 48, 46, 48]⟩ ⟨#[48]⟩ ⟨#[48]⟩ ⟨#[48]⟩ ⟨#[48]⟩ 0 0 0 0 (by decide +kernel) ⟨(by decide +kernel), (by decide +kernel), by decide, by decide⟩ ⟨(by decide +kernel), (by decide +kernel), by decide, by decide⟩ ⟨(by decide +kernel), (by decide +kernel), by decide, by decide⟩ ⟨(by decide +kernel), (by decide +kernel), by decide, by decide⟩ w hm)
theorem pfOk2 : PfOk ⟨#[48, 46, 48, 46, 48, 46, 48, 47, 51, 50]⟩ ⟨of4 0, 32⟩ :=
  have hm : mayQ ⟨of4 0, 32⟩ = true := by decide +kernel
  ⟨ok_of4 0, hm, fun w hx => cidr_Parse ⟨#[48, 46, 48, 46, 48, 46, 48, 47, 51, 50]⟩ ⟨#[48, 46, 48, 46, 48, 46, 48]⟩ ⟨#[51, 50]⟩ 7 (of4 0) 32 (by decide +kernel) (by decide) (by decide) (by decide +kernel) (by decide +kernel) adOk2 (by decide +kernel) (by decide +kernel) (ok_of4 0) hm w hx⟩
theorem adOk3 : AdOk ⟨#[58, 58]⟩ (of6 [0, 0, 0, 0, 0, 0, 0, 0]) := addr_Parse6 ⟨#[58, 58]⟩ 0 0 0 0 0 0 0 0 (by decide) (fun w => four_Strict_no 50 ⟨#[58, 58]⟩ [⟨#[58, 58]⟩] (by decide +kernel) (by decide) w) (fun w hm => six_Parse_oo ⟨#[58, 58]⟩ (by decide +kernel) w hm)
theorem pfOk3 : PfOk ⟨#[58, 58, 47, 49, 50, 56]⟩ ⟨of6 [0, 0, 0, 0, 0, 0, 0, 0], 128⟩ :=
  have hm : mayQ ⟨of6 [0, 0, 0, 0, 0, 0, 0, 0], 128⟩ = true := by decide +kernel
  ⟨ok_of6 0 0 0 0 0 0 0 0, hm, fun w hx => cidr_Parse ⟨#[58, 58, 47, 49, 50, 56]⟩ ⟨#[58, 58]⟩ ⟨#[49, 50, 56]⟩ 2 (of6 [0, 0, 0, 0, 0, 0, 0, 0]) 128 (by decide +kernel) (by decide) (by decide) (by decide +kernel) (by decide +kernel) adOk3 (by decide +kernel) (by decide +kernel) (ok_of6 0 0 0 0 0 0 0 0) hm w hx⟩
theorem adOk4 : AdOk ⟨#[49, 48, 46, 48, 46, 48, 46, 48]⟩ (of4 167772160) := addr_Parse4 ⟨#[49, 48, 46, 48, 46, 48, 46, 48]⟩ 167772160 (by decide) (by decide) (fun w hm => (show fourN [10, 0, 0, 0] 4 = 167772160 by decide) ▸ four_Strict_yes 50 ⟨#[49, 48, 46, 48, 46, 48, 46, 48]⟩ ⟨#[49, 48]⟩ ⟨#[48]⟩ ⟨#[48]⟩ ⟨#[48]⟩ 10 0 0 0 (by decide +kernel) ⟨(by decide +kernel), (by decide +kernel), by decide, by decide⟩ ⟨(by decide +kernel), (by decide +kernel), by decide, by decide⟩ ⟨(by decide +kernel), (by decide +kernel), by decide, by decide⟩ ⟨(by decide +kernel), (by decide +kernel), by decide, by decide⟩ w hm)
theorem pfOk4 : PfOk ⟨#[49, 48, 46, 48, 46, 48, 46, 48, 47, 56]⟩ ⟨of4 167772160, 8⟩ :=
  have hm : mayQ ⟨of4 167772160, 8⟩ = true := by decide +kernel
  ⟨ok_of4 167772160, hm, fun w hx => cidr_Parse ⟨#[49, 48, 46, 48, 46, 48, 46, 48, 47, 56]⟩ ⟨#[49, 48, 46, 48, 46, 48, 46, 48]⟩ ⟨#[56]⟩ 8 (of4 167772160) 8 (by decide +kernel) (by decide) (by decide) (by decide +kernel) (by decide +kernel) adOk4 (by decide +kernel) (by decide +kernel) (ok_of4 167772160) hm w hx⟩
theorem adOk5 : AdOk ⟨#[49, 48, 48, 46, 54, 52, 46, 48, 46, 48]⟩ (of4 1681915904) := addr_Parse4 ⟨#[49, 48, 48, 46, 54, 52, 46, 48, 46, 48]⟩ 1681915904 (by decide) (by decide) (fun w hm => (show fourN [100, 64, 0, 0] 4 = 1681915904 by decide) ▸ four_Strict_yes 50 ⟨#[49, 48, 48, 46, 54, 52, 46, 48, 46, 48]⟩ ⟨#[49, 48, 48]⟩ ⟨#[54, 52]⟩ ⟨#[48]⟩ ⟨#[48]⟩ 100 64 0 0 (by decide +kernel) ⟨(by decide +kernel), (by decide +kernel), by decide, by decide⟩ ⟨(by decide +kernel), (by decide +kernel), by decide, by decide⟩ ⟨(by decide +kernel), (by decide +kernel), by decide, by decide⟩ ⟨(by decide +kernel), (by decide +kernel), by decide, by decide⟩ w hm)
theorem pfOk5 : PfOk ⟨#[49, 48, 48, 46, 54, 52, 46, 48, 46, 48, 47, 49, 48]⟩ ⟨of4 1681915904, 10⟩ :=
  have hm : mayQ ⟨of4 1681915904, 10⟩ = true := by decide +kernel
  ⟨ok_of4 1681915904, hm, fun w hx => cidr_Parse ⟨#[49, 48, 48, 46, 54, 52, 46, 48, 46, 48, 47, 49, 48]⟩ ⟨#[49, 48, 48, 46, 54, 52, 46, 48, 46, 48]⟩ ⟨#[49, 48]⟩ 10 (of4 1681915904) 10 (by decide +kernel) (by decide) (by decide) (by decide +kernel) (by decide +kernel) adOk5 (by decide +kernel) (by decide +kernel) (ok_of4 1681915904) hm w hx⟩
theorem adOk6 : AdOk ⟨#[49, 54, 57, 46, 50, 53, 52, 46, 48, 46, 48]⟩ (of4 2851995648) := addr_Parse4 ⟨#[49, 54, 57, 46, 50, 53, 52, 46, 48, 46, 48]⟩ 2851995648 (by decide) (by decide) (fun w hm => (show fourN [169, 254, 0, 0] 4 = 2851995648 by decide) ▸ four_Strict_yes 50 ⟨#[49, 54, 57, 46, 50, 53, 52, 46, 48, 46, 48]⟩ ⟨#[49, 54, 57]⟩ ⟨#[50, 53, 52]⟩ ⟨#[48]⟩ ⟨#[48]⟩ 169 254 0 0 (by decide +kernel) ⟨(by decide +kernel), (by decide +kernel), by decide, by decide⟩ ⟨(by decide +kernel), (by decide +kernel), by decide, by decide⟩ ⟨(by decide +kernel), (by decide +kernel), by decide, by decide⟩ ⟨(by decide +kernel), (by decide +kernel), by decide, by decide⟩ w hm)
theorem pfOk6 : PfOk ⟨#[49, 54, 57, 46, 50, 53, 52, 46, 48, 46, 48, 47, 49, 54]⟩ ⟨of4 2851995648, 16⟩ :=
  have hm : mayQ ⟨of4 2851995648, 16⟩ = true := by decide +kernel
  ⟨ok_of4 2851995648, hm, fun w hx => cidr_Parse ⟨#[49, 54, 57, 46, 50, 53, 52, 46, 48, 46, 48, 47, 49, 54]⟩ ⟨#[49, 54, 57, 46, 50, 53, 52, 46, 48, 46, 48]⟩ ⟨#[49, 54]⟩ 11 (of4 2851995648) 16 (by decide +kernel) (by decide) (by decide) (by decide +kernel) (by decide +kernel) adOk6 (by decide +kernel) (by decide +kernel) (ok_of4 2851995648) hm w hx⟩
theorem adOk7 : AdOk ⟨#[49, 55, 50, 46, 49, 54, 46, 48, 46, 48]⟩ (of4 2886729728) := addr_Parse4 ⟨#[49, 55, 50, 46, 49, 54, 46, 48, 46, 48]⟩ 2886729728 (by decide) (by decide) (fun w hm => (show fourN [172, 16, 0, 0] 4 = 2886729728 by decide) ▸ four_Strict_yes 50 ⟨#[49, 55, 50, 46, 49, 54, 46, 48, 46, 48]⟩ ⟨#[49, 55, 50]⟩ ⟨#[49, 54]⟩ ⟨#[48]⟩ ⟨#[48]⟩ 172 16 0 0 (by decide +kernel) ⟨(by decide +kernel), (by decide +kernel), by decide, by decide⟩ ⟨(by decide +kernel), (by decide +kernel), by decide, by decide⟩ ⟨(by decide +kernel), (by decide +kernel), by decide, by decide⟩ ⟨(by decide +kernel), (by decide +kernel), by decide, by decide⟩ w hm)
theorem pfOk7 : PfOk ⟨#[49, 55, 50, 46, 49, 54, 46, 48, 46, 48, 47, 49, 50]⟩ ⟨of4 2886729728, 12⟩ :=
  have hm : mayQ ⟨of4 2886729728, 12⟩ = true := by decide +kernel
  ⟨ok_of4 2886729728, hm, fun w hx => cidr_Parse ⟨#[49, 55, 50, 46, 49, 54, 46, 48, 46, 48, 47, 49, 50]⟩ ⟨#[49, 55, 50, 46, 49, 54, 46, 48, 46, 48]⟩ ⟨#[49, 50]⟩ 10 (of4 2886729728) 12 (by decide +kernel) (by decide) (by decide) (by decide +kernel) (by decide +kernel) adOk7 (by decide +kernel) (by decide +kernel) (ok_of4 2886729728) hm w hx⟩
theorem adOk8 : AdOk ⟨#[49, 57, 50, 46, 49, 54, 56, 46, 48, 46, 48]⟩ (of4 3232235520) := addr_Parse4 ⟨#[49, 57, 50, 46, 49, 54, 56, 46, 48, 46, 48]⟩ 3232235520 (by decide) (by decide) (fun w hm => (show fourN [192, 168, 0, 0] 4 = 3232235520 by decide) ▸ four_Strict_yes 50 ⟨#[49, 57, 50, 46, 49, 54, 56, 46, 48, 46, 48]⟩ ⟨#[49, 57, 50]⟩ ⟨#[49, 54, 56]⟩ ⟨#[48]⟩ ⟨#[48]⟩ 192 168 0 0 (by decide +kernel) ⟨(by decide +kernel), (by decide +kernel), by decide, by decide⟩ ⟨(by decide +kernel), (by decide +kernel), by decide, by decide⟩ ⟨(by decide +kernel), (by decide +kernel), by decide, by decide⟩ ⟨(by decide +kernel), (by decide +kernel), by decide, by decide⟩ w hm)
theorem pfOk8 : PfOk ⟨#[49, 57, 50, 46, 49, 54, 56, 46, 48, 46, 48, 47, 49, 54]⟩ ⟨of4 3232235520, 16⟩ :=
  have hm : mayQ ⟨of4 3232235520, 16⟩ = true := by decide +kernel
  ⟨ok_of4 3232235520, hm, fun w hx => cidr_Parse ⟨#[49, 57, 50, 46, 49, 54, 56, 46, 48, 46, 48, 47, 49, 54]⟩ ⟨#[49, 57, 50, 46, 49, 54, 56, 46, 48, 46, 48]⟩ ⟨#[49, 54]⟩ 11 (of4 3232235520) 16 (by decide +kernel) (by decide) (by decide) (by decide +kernel) (by decide +kernel) adOk8 (by decide +kernel) (by decide +kernel) (ok_of4 3232235520) hm w hx⟩
theorem adOk9 : AdOk ⟨#[102, 99, 48, 48, 58, 58]⟩ (of6 [64512, 0, 0, 0, 0, 0, 0, 0]) := addr_Parse6 ⟨#[102, 99, 48, 48, 58, 58]⟩ 64512 0 0 0 0 0 0 0 (by decide) (fun w => four_Strict_no 50 ⟨#[102, 99, 48, 48, 58, 58]⟩ [⟨#[102, 99, 48, 48, 58, 58]⟩] (by decide +kernel) (by decide) w) (fun w hm => six_Parse_ao ⟨#[102, 99, 48, 48, 58, 58]⟩ ⟨#[102, 99, 48, 48]⟩ 64512 ⟨(by decide +kernel), ⟨50, (by decide +kernel)⟩, (by decide +kernel), by decide, (by decide +kernel), by decide, by decide⟩ (by decide +kernel) w hm)
theorem pfOk9 : PfOk ⟨#[102, 99, 48, 48, 58, 58, 47, 55]⟩ ⟨of6 [64512, 0, 0, 0, 0, 0, 0, 0], 7⟩ :=
  have hm : mayQ ⟨of6 [64512, 0, 0, 0, 0, 0, 0, 0], 7⟩ = true := by decide +kernel
  ⟨ok_of6 64512 0 0 0 0 0 0 0, hm, fun w hx => cidr_Parse ⟨#[102, 99, 48, 48, 58, 58, 47, 55]⟩ ⟨#[102, 99, 48, 48, 58, 58]⟩ ⟨#[55]⟩ 6 (of6 [64512, 0, 0, 0, 0, 0, 0, 0]) 7 (by decide +kernel) (by decide) (by decide) (by decide +kernel) (by decide +kernel) adOk9 (by decide +kernel) (by decide +kernel) (ok_of6 64512 0 0 0 0 0 0 0) hm w hx⟩
theorem adOk10 : AdOk ⟨#[102, 101, 56, 48, 58, 58]⟩ (of6 [65152, 0, 0, 0, 0, 0, 0, 0]) := addr_Parse6 ⟨#[102, 101, 56, 48, 58, 58]⟩ 65152 0 0 0 0 0 0 0 (by decide) (fun w => four_Strict_no 50 ⟨#[102, 101, 56, 48, 58, 58]⟩ [⟨#[102, 101, 56, 48, 58, 58]⟩] (by decide +kernel) (by decide) w) (fun w hm => six_Parse_ao ⟨#[102, 101, 56, 48, 58, 58]⟩ ⟨#[102, 101, 56, 48]⟩ 65152 ⟨(by decide +kernel), ⟨50, (by decide +kernel)⟩, (by decide +kernel), by decide, (by decide +kernel), by decide, by decide⟩ (by decide +kernel) w hm)
theorem pfOk10 : PfOk ⟨#[102, 101, 56, 48, 58, 58, 47, 49, 48]⟩ ⟨of6 [65152, 0, 0, 0, 0, 0, 0, 0], 10⟩ :=
  have hm : mayQ ⟨of6 [65152, 0, 0, 0, 0, 0, 0, 0], 10⟩ = true := by decide +kernel
  ⟨ok_of6 65152 0 0 0 0 0 0 0, hm, fun w hx => cidr_Parse ⟨#[102, 101, 56, 48, 58, 58, 47, 49, 48]⟩ ⟨#[102, 101, 56, 48, 58, 58]⟩ ⟨#[49, 48]⟩ 6 (of6 [65152, 0, 0, 0, 0, 0, 0, 0]) 10 (by decide +kernel) (by decide) (by decide) (by decide +kernel) (by decide +kernel) adOk10 (by decide +kernel) (by decide +kernel) (ok_of6 65152 0 0 0 0 0 0 0) hm w hx⟩
def dfs0 : List (ByteArray × Pf) := [(⟨#[49, 50, 55, 46, 48, 46, 48, 46, 48, 47, 56]⟩, ⟨of4 2130706432, 8⟩), (⟨#[58, 58, 49, 47, 49, 50, 56]⟩, ⟨of6 [0, 0, 0, 0, 0, 0, 0, 1], 128⟩), (⟨#[48, 46, 48, 46, 48, 46, 48, 47, 51, 50]⟩, ⟨of4 0, 32⟩), (⟨#[58, 58, 47, 49, 50, 56]⟩, ⟨of6 [0, 0, 0, 0, 0, 0, 0, 0], 128⟩)]
def dfs1 : List (ByteArray × Pf) := [(⟨#[49, 48, 46, 48, 46, 48, 46, 48, 47, 56]⟩, ⟨of4 167772160, 8⟩), (⟨#[49, 48, 48, 46, 54, 52, 46, 48, 46, 48, 47, 49, 48]⟩, ⟨of4 1681915904, 10⟩), (⟨#[49, 54, 57, 46, 50, 53, 52, 46, 48, 46, 48, 47, 49, 54]⟩, ⟨of4 2851995648, 16⟩), (⟨#[49, 55, 50, 46, 49, 54, 46, 48, 46, 48, 47, 49, 50]⟩, ⟨of4 2886729728, 12⟩), (⟨#[49, 57, 50, 46, 49, 54, 56, 46, 48, 46, 48, 47, 49, 54]⟩, ⟨of4 3232235520, 16⟩), (⟨#[102, 99, 48, 48, 58, 58, 47, 55]⟩, ⟨of6 [64512, 0, 0, 0, 0, 0, 0, 0], 7⟩), (⟨#[102, 101, 56, 48, 58, 58, 47, 49, 48]⟩, ⟨of6 [65152, 0, 0, 0, 0, 0, 0, 0], 10⟩)]
theorem dfs0_ok : ∀ (i : Nat) x, dfs0[i]? = some x → PfOk x.1 x.2 := fun i x hx => by
  match i, hx with
  | 0, hx => cases hx; exact pfOk0
  | 1, hx => cases hx; exact pfOk1
  | 2, hx => cases hx; exact pfOk2
  | 3, hx => cases hx; exact pfOk3
theorem dfs1_ok : ∀ (i : Nat) x, dfs1[i]? = some x → PfOk x.1 x.2 := fun i x hx => by
  match i, hx with
  | 0, hx => cases hx; exact pfOk4
  | 1, hx => cases hx; exact pfOk5
  | 2, hx => cases hx; exact pfOk6
  | 3, hx => cases hx; exact pfOk7
  | 4, hx => cases hx; exact pfOk8
  | 5, hx => cases hx; exact pfOk9
  | 6, hx => cases hx; exact pfOk10
end Go.Proofs.YthdognlkacjkhaaGreatDoor.P
end
