/-
  Texts of the proof, put together.
-/
import Derived.Laws.AppendOwnNone
import Derived.Test.YthdognlkacjkhaaGreatDoorM7
import Derived.Test.YthdognlkacjkhaaGreatDoorArrL
section
namespace Go.Proofs.YthdognlkacjkhaaGreatDoor.P
open Go.RowKit Go.Proofs.YthdognlkacjkhaaGreatDoorW.PrintWords Go.Proofs.YthdognlkacjkhaaGreatDoorW.PrintLast Go.Proofs.YthdognlkacjkhaaGreatDoorW.PrintMore
set_option linter.unusedVariables false
set_option linter.unusedSimpArgs false
theorem rd_of_own {w : World} {base : Nat} {te : TypeId} {v : Value} {l : List En} (h : w.ownsRow base te 19 v l.length (flE l)) (hl : okE l) (ty : TypeId)
    (hidx : ∀ (g n cap i : Nat) (w : World), i < n → (Instr.indexAt ty (.slice (some ⟨g, 0, none⟩) n cap) (.int .i64 (i : Int))).run Tryz.prog w = .ok (.pointer (some ⟨g, i * 19, none⟩)) w) :
    ∃ (A : Option Addr) (cap G : Nat), v = .slice A l.length cap ∧ Rd w ty A l.length cap G l ∧ ((A = none ∧ cap = 0 ∧ l = []) ∨ (∃ cur, w.heap[G]? = some (.cells cur te (0, 0)) ∧ A = some ⟨G, 0, none⟩ ∧ base ≤ G ∧ l.length ≤ cap)) := by
  rcases h.2 with ⟨hv, hn⟩ | ⟨g, cap, cur, hv, hb, hg, hc, hm, hs, ht⟩
  · have hl0 : l = [] := List.length_eq_zero_iff.1 hn
    subst hl0
    exact ⟨none, 0, 0, hv, ⟨rfl, fun w i hi => absurd hi (Nat.not_lt_zero _), fun i e he => by simp at he⟩, .inl ⟨rfl, rfl, rfl⟩⟩
  · refine ⟨some ⟨g, 0, none⟩, cap, g, hv, ⟨rfl, fun w i hi => hidx g l.length cap i w hi, fun i e he => ?_⟩, .inr ⟨cur, hg, rfl, hb, hc⟩⟩
    exact range_of_block hg ht (fun j u hj => flE_get hl he hj)
/-- What the search from behind has found parts the entries. -/
theorem set_parts {l : List En} (hl : okE l) (hs : Sorted l) {p : Pf} (hp : p.a.ok) {k : Nat} (hk : k ≤ (dropE l p).length) (h1 : ∀ (j : Nat) (x : En), k ≤ j → (dropE l p)[j]? = some x → cmpP p x.p < 0) (h2 : ∀ x, 0 < k → (dropE l p)[k - 1]? = some x → ¬ cmpP p x.p < 0) (v : Int) :
    (dropE l p).take k ++ ⟨p, v⟩ :: (dropE l p).drop k = setE l p v := by
  have ok1 := ok_dropE hl p
  have hs1 := sorted_dropE hs p
  have hne : ∀ e ∈ dropE l p, e.p ≠ p := fun e he h => by
    have := (List.mem_filter.1 he).2
    simp [h] at this
  have hsw : ∀ e ∈ dropE l p, cmpP p e.p = - cmpP e.p p := fun e he => cmpP_swap (ok1 e he) hp
  have hnz : ∀ e ∈ dropE l p, cmpP e.p p ≠ 0 := fun e he h => hne e he ((cmpP_zero (ok1 e he) hp).1 h)
  have hlo : ∀ e ∈ (dropE l p).take k, cmpP e.p p < 0 := fun e he => by
    obtain ⟨j, hj, rfl⟩ := List.getElem_of_mem he
    rw [List.getElem_take]
    have hjk : j < k := by rw [List.length_take] at hj; omega
    have hjl : j < (dropE l p).length := by omega
    have hkl : k - 1 < (dropE l p).length := by omega
    have h3 := h2 _ (by omega) (List.getElem?_eq_getElem hkl)
    have h4 := hsw _ (List.getElem_mem hkl)
    have h5 := hnz _ (List.getElem_mem hkl)
    have h6 : cmpP ((dropE l p)[k - 1]).p p < 0 := by omega
    by_cases hjk2 : j = k - 1
    · subst hjk2; exact h6
    · have h7 := List.pairwise_iff_getElem.1 hs1 j (k - 1) hjl hkl (by omega)
      exact cmpP_trans (ok1 _ (List.getElem_mem hjl)) (ok1 _ (List.getElem_mem hkl)) hp h7 h6
  have hhi : ∀ e ∈ (dropE l p).drop k, 0 < cmpP e.p p := fun e he => by
    obtain ⟨j, hj, rfl⟩ := List.getElem_of_mem he
    rw [List.getElem_drop]
    rw [List.length_drop] at hj
    have hjl : k + j < (dropE l p).length := by omega
    have h3 := h1 (k + j) _ (Nat.le_add_right _ _) (List.getElem?_eq_getElem hjl)
    have h4 := hsw _ (List.getElem_mem hjl)
    omega
  have e1 : ltE l p = ltE (dropE l p) p := by
    unfold ltE dropE
    rw [List.filter_filter]
    refine List.filter_congr (fun e he => ?_)
    by_cases h : cmpP e.p p < 0
    · have : ¬ e.p = p := fun h3 => by rw [(cmpP_zero (hl e he) hp).2 h3] at h; omega
      simp [h, this]
    · simp [h]
  have e2 : gtE l p = gtE (dropE l p) p := by
    unfold gtE dropE
    rw [List.filter_filter]
    refine List.filter_congr (fun e he => ?_)
    by_cases h : 0 < cmpP e.p p
    · have : ¬ e.p = p := fun h3 => by rw [(cmpP_zero (hl e he) hp).2 h3] at h; omega
      simp [h, this]
    · simp [h]
  unfold setE
  rw [e1, e2]
  congr 1
  · unfold ltE
    conv => rhs; rw [← List.take_append_drop k (dropE l p)]
    rw [List.filter_append, List.filter_eq_self.2 (fun e he => decide_eq_true (hlo e he)), List.filter_eq_nil_iff.2 (fun e he => by have := hhi e he; simp only [decide_eq_true_eq]; omega), List.append_nil]
  · congr 1
    unfold gtE
    conv => rhs; rw [← List.take_append_drop k (dropE l p)]
    rw [List.filter_append, List.filter_eq_nil_iff.2 (fun e he => by have := hlo e he; simp only [decide_eq_true_eq]; omega), List.nil_append, List.filter_eq_self.2 (fun e he => decide_eq_true (hhi e he))]
theorem built_er16 (f n v b0 b1 b2 b3 b4 b5 b6 b7 b8 b9 b10 b11 b12 b13 b14 b15 : Int) : Tryz.prog.built 52 [(0, .agg (eP ⟨⟨f, [b0, b1, b2, b3, b4, b5, b6, b7, b8, b9, b10, b11, b12, b13, b14, b15]⟩, n⟩)), (1, .int .i64 v)] = some (eE ⟨⟨⟨f, [b0, b1, b2, b3, b4, b5, b6, b7, b8, b9, b10, b11, b12, b13, b14, b15]⟩, n⟩, v⟩) := by kernel_rfl
theorem built_er {p : Pf} (hp : p.a.ok) (v : Int) : Tryz.prog.built 52 [(0, .agg (eP p)), (1, .int .i64 v)] = some (eE ⟨p, v⟩) := by
  obtain ⟨⟨f, bs⟩, n⟩ := p
  match bs, hp.1 with
  | [b0, b1, b2, b3, b4, b5, b6, b7, b8, b9, b10, b11, b12, b13, b14, b15], _ => exact built_er16 f n v b0 b1 b2 b3 b4 b5 b6 b7 b8 b9 b10 b11 b12 b13 b14 b15
theorem flE_cells {w : World} {G : Nat} {l : List En} (h : ∀ (i : Nat) (e : En), l[i]? = some e → w.rangeAt G (i * 19) (lE e)) (hl : okE l) : ∀ j u, (flE l)[j]? = some u → w.cell? ⟨G, j, none⟩ = some u := by
  intro j u hj
  have hjl : j < (flE l).length := (List.getElem?_eq_some_iff.1 hj).1
  rw [flE_len hl] at hjl
  have hi : j / 19 < l.length := by omega
  obtain ⟨e, he⟩ : ∃ e, l[j / 19]? = some e := ⟨l[j / 19], List.getElem?_eq_getElem hi⟩
  have hlt : j % 19 < (lE e).length := by rw [lE_len (hl e (List.mem_of_getElem? he))]; omega
  have h1 := flE_get hl he (List.getElem?_eq_getElem hlt)
  rw [show j / 19 * 19 + j % 19 = j by omega, hj] at h1
  cases h1
  have h2 := h (j / 19) e he (j % 19) _ (List.getElem?_eq_getElem hlt)
  rw [show j / 19 * 19 + j % 19 = j by omega] at h2
  exact h2
theorem cell_below {w w' : World} {a : Addr} {u : Value} (h : w.cell? a = some u) (hb : Below w.heap.size w w') : w'.cell? a = some u :=
  (World.cell?_of_block (hb.block a.block (World.block_lt_of_cell? w a h))).trans h
theorem wrap_dn1K (k : Nat) (h0 : 0 < k) (h : k ≤ 1000000) : IntKind.i64.wrap ((k : Int) - 1) = ((k - 1 : Nat) : Int) := by rw [IntKind.wrap_i64]; omega
theorem wrap_dn1 (k : Nat) (h0 : 0 < k) (h : k ≤ 1000000) : wrap64 ((k : Int) - 1) = ((k - 1 : Nat) : Int) := by unfold wrap64; omega
set_option maxHeartbeats 8000000 in
set_option maxRecDepth 100000 in
theorem ref06_Set_no (A : Option Addr) (n cap G : Nat) (l : List En) (hl : okE l) (hs : Sorted l) (p : Pf) (hp : p.a.ok) (v : Int) (w : World) (hrd : Rd w 25 A n cap G l) (hn : n ≤ 1000) (hm : mayP p = false) :
    Calls Tryz.prog 23 #[.slice A n cap, .agg (eP p), .int .i64 v] w fun r w' => r = .returned (.tuple #[.slice A n cap, .int .i64 1]) ∧ Below w.heap.size w w' := by
  have HB := Aside0.mk (Below.refl w.heap.size w)
  have HP := Aside0.mk hp
  have HL := Aside0.mk hl
  have HS := Aside0.mk hs
  have HRD := Aside0.mk hrd
  have HN := Aside0.mk hn
  have HM := Aside0.mk hm
  obtain ⟨i0, hi0, hz0, hz1, hz2⟩ := info_parts info_Er
  clear hp hl hs hrd hn hm
  go_enter Tryz.func23, Tryz.ntmps23
  go_wp2_with (first
    | ((with_reducible refine gate_dst (N := 4) rfl ?_); refine box_event ?hg (N := 4) ?hd (cs := eP p) (t := 42) ?hr ?_; (case hd => rfl); (case hg => rfl); (case hr => first | (go_simp; done) | (go_simp; rfl)); intro g4 hg w1 hbox hb; have HX := Aside0.mk hbox; replace HB := Aside0.mk (below_step (bel_later HB.out) hb); clear hb hg hbox)
    | ((with_reducible refine gate_dst (N := 13) rfl ?_); refine wpList_load_row rfl 42 (.tmp 4) rfl g4 rfl 42 (eP p) (0, 0) _ HX.out Tryz.underlying42 rfl (infoEP HP.out) ?_)
    | (go_at_call 43; refine (ref05_May p HP.out _).mono ?_; rintro r w2 ⟨rfl, hb⟩; rw [HM.out]; replace HX := Aside0.mk (blk_below HX.out hb); replace HB := Aside0.mk (below_step HB.out hb); clear hb))
  go_ret2
  exact ⟨rfl, HB.out⟩
set_option maxHeartbeats 16000000 in
set_option maxRecDepth 100000 in
theorem ref06_Set_yes (A : Option Addr) (n cap G : Nat) (l : List En) (hl : okE l) (hs : Sorted l) (p : Pf) (hp : p.a.ok) (v : Int) (w : World) (hrd : Rd w 25 A n cap G l) (hn : n ≤ 1000) (hm : mayP p = true) :
    Calls Tryz.prog 23 #[.slice A n cap, .agg (eP p), .int .i64 v] w fun r w' => ∃ v', r = .returned (.tuple #[v', .int .i64 0]) ∧ w'.ownsRow w.heap.size 52 19 v' (setE l p v).length (flE (setE l p v)) ∧ Below w.heap.size w w' := by
  have HB := Aside0.mk (Below.refl w.heap.size w)
  have HP := Aside0.mk hp
  have HL := Aside0.mk hl
  have HS := Aside0.mk hs
  have HRD := Aside0.mk hrd
  have HN := Aside0.mk hn
  have HM := Aside0.mk hm
  obtain ⟨i0, hi0, hz0, hz1, hz2⟩ := info_parts info_Er
  clear hp hl hs hrd hn hm
  go_enter Tryz.func23, Tryz.ntmps23
  go_wp2_with (first
    | ((with_reducible refine gate_dst (N := 4) rfl ?_); refine box_event ?hg (N := 4) ?hd (cs := eP p) (t := 42) ?hr ?_; (case hd => rfl); (case hg => rfl); (case hr => first | (go_simp; done) | (go_simp; rfl)); intro g4 hg w1 hbox hb; have HX := Aside0.mk hbox; replace HB := Aside0.mk (below_step (bel_later HB.out) hb); clear hb hg hbox)
    | ((with_reducible refine gate_dst (N := 13) rfl ?_); refine wpList_load_row rfl 42 (.tmp 4) rfl g4 rfl 42 (eP p) (0, 0) _ HX.out Tryz.underlying42 rfl (infoEP HP.out) ?_)
    | (go_at_call 43; refine (ref05_May p HP.out _).mono ?_; rintro r w2 ⟨rfl, hb⟩; rw [HM.out]; replace HX := Aside0.mk (blk_below HX.out hb); replace HB := Aside0.mk (below_step HB.out hb); clear hb)
    | ((with_reducible refine gate_dst (N := 20) rfl ?_); refine wpList_load_row rfl 42 (.tmp 4) rfl g4 rfl 42 (eP p) (0, 0) _ HX.out Tryz.underlying42 rfl (infoEP HP.out) ?_)
    | (go_at_call 44; refine (ref06_Drop A n cap G l HL.out p HP.out _ (rd_below HRD.out HB.out) HN.out).mono ?_; rintro r w4 ⟨v9, rfl, hown, hb⟩; obtain ⟨A2, cap2, G2, rfl, hrd2, hG2⟩ := rd_of_own hown (ok_dropE HL.out p) 25 (fun g n cap i w hi => idx_er g n cap i w hi); have HRD2 := Aside0.mk hrd2; have HG2 := Aside0.mk hG2; replace HX := Aside0.mk (blk_below HX.out hb); replace HB := Aside0.mk (below_step HB.out hb); clear hb hown hrd2 hG2))
  obtain ⟨m, hm⟩ : ∃ m, (dropE l p).length = m := ⟨_, rfl⟩
  have HM2 := Aside0.mk hm
  have HML := Aside0.mk (show m ≤ 1000 by
    have h1 : (dropE l p).length ≤ l.length := List.length_filter_le _ _
    have := HRD.out.len
    have := HN.out
    omega)
  rw [hm] at HRD2 ⊢
  clear hm
  go_loopw [11] (fun v11 wr => ∃ k : Nat, v11 = .int .i64 (k : Int) ∧ Aside0 (k ≤ m) ∧ Aside0 (∀ (j : Nat) (x : En), k ≤ j → (dropE l p)[j]? = some x → cmpP p x.p < 0) ∧ Aside0 (wr.heap[g4]? = some (.cells (eP p) 42 (0, 0)) ∧ Below w4.heap.size w4 wr)) (fun v11 _ => (intOf v11).toNat)
  case atStart => exact ⟨m, rfl, ⟨Nat.le_refl _⟩, ⟨fun j x hj hx => by
    have := (List.getElem?_eq_some_iff.1 hx).1
    have := HM2.out
    omega⟩, ⟨HX.out, Below.refl _ _⟩⟩
  case round =>
    obtain ⟨k, rfl, HI, HJ, HE⟩ := hrel
    clear HX
    have HX := Aside0.mk HE.out.1
    have HB4 := Aside0.mk HE.out.2
    clear HE
    by_cases hk0 : 0 < k
    · have c0 : decide ((0 : Int) < (k : Int)) = true := decide_eq_true (by omega)
      have c1 : decide (0 < k) = true := decide_eq_true hk0
      obtain ⟨e, he⟩ : ∃ e, (dropE l p)[k - 1]? = some e := ⟨(dropE l p)[k - 1]'(by have := HI.out; have := HM2.out; omega), List.getElem?_eq_getElem _⟩
      have HEE := Aside0.mk he
      have HOE := Aside0.mk (ok_dropE HL.out p e (List.mem_of_getElem? he))
      have hidx := fun w => HRD2.out.idx w (k - 1) (by have := HI.out; omega)
      have e4 : wrap64 ((k : Int) - 1) = ((k - 1 : Nat) : Int) := wrap_dn1 k hk0 (by have := HI.out; have := HML.out; omega)
      have HE4 := Aside0.mk e4
      have e4K : IntKind.i64.wrap ((k : Int) - 1) = ((k - 1 : Nat) : Int) := wrap_dn1K k hk0 (by have := HI.out; have := HML.out; omega)
      have HR := Aside0.mk ((rd_below HRD2.out HB4.out).at_ (k - 1) e he)
      have HK0 := Aside0.mk hk0
      clear hk0 he
      by_cases hc : cmpP p e.p < 0
      · have c2 : decide (cmpP p e.p < 0) = true := decide_eq_true hc
        have HC := Aside0.mk hc
        clear hc
        go_wp2
        obtain ⟨S, hS⟩ : ∃ S : World → Prop, S = fun w' => w'.heap[g4]? = some (.cells (eP p) 42 (0, 0)) ∧ w'.rangeAt G2 ((k - 1) * 19) (lE e) ∧ Below wr.heap.size wr w' := ⟨_, rfl⟩
        have HSx := Aside0.mk (show ∀ x : World, S x → x.heap[g4]? = some (.cells (eP p) 42 (0, 0)) ∧ x.rangeAt G2 ((k - 1) * 19) (lE e) ∧ Below wr.heap.size wr x by intro b h; rw [hS] at h; exact h)
        have HSt := Aside0.mk (show ∀ a b : World, S a → Below a.heap.size a b → S b by
          intro a b h hb
          rw [hS] at h ⊢
          exact ⟨blk_below h.1 hb, range_below h.2.1 hb, below_step h.2.2 hb⟩)
        have s0 : S wr.drew := by rw [hS]; exact ⟨blk_later HX.out, range_below HR.out (bel_later (Below.refl _ _)), bel_later (Below.refl _ _)⟩
        clear hS
        refine wp_region_held_drew (S := S) (by kernel_rfl) s0 (fun _ => ?_)
        refine anyH_world s0 (fun w5 s5 => ?_)
        clear s0
        have s0 := s5
        clear s5
        refine wpAnyH_take (i := 0) (v := .int .i64 (k : Int)) rfl (by kernel_rfl) (by kernel_rfl) (by kernel_rfl) (fun _ _ _ h => h) (Or.inl ⟨by kernel_rfl, fun w' h => by first | (go_simp; done) | (go_simp; rfl)⟩) s0 ?_
        (try simp only [Act.put, List.getElem_toArray, List.getElem_cons_succ, List.getElem_cons_zero, List.setIfInBounds_toArray, List.set_cons_zero, List.set_cons_succ])
        refine wpAnyH_take (i := 1) (v := .bool true) rfl (by kernel_rfl) (by kernel_rfl) (by kernel_rfl) (fun _ _ _ h => h) (Or.inl ⟨by kernel_rfl, fun w' h => by first | (go_simp; done) | (go_simp; rfl)⟩) s0 ?_
        (try simp only [Act.put, List.getElem_toArray, List.getElem_cons_succ, List.getElem_cons_zero, List.setIfInBounds_toArray, List.set_cons_zero, List.set_cons_succ])
        refine wpAnyH_take (i := 2) (v := .bool true) rfl (by kernel_rfl) (by kernel_rfl) (by kernel_rfl) (fun _ _ _ h => h) (Or.inl ⟨by kernel_rfl, fun w' h => by first | (go_simp; done) | (go_simp; rfl)⟩) s0 ?_
        (try simp only [Act.put, List.getElem_toArray, List.getElem_cons_succ, List.getElem_cons_zero, List.setIfInBounds_toArray, List.set_cons_zero, List.set_cons_succ])
        refine wpAnyH_take (i := 3) (v := .agg (eP p)) rfl ?qa3b ?qa3c ?qa3d (fun _ _ _ h => h) ?qa3e s0 ?qa3f
        case qa3b => kernel_rfl
        case qa3c => kernel_rfl
        case qa3d => kernel_rfl
        case qa3e => exact yields_row (by kernel_rfl) 42 (.tmp 4) rfl g4 rfl 42 (eP p) (0, 0) _ (fun w' h => (HSx.out w' h).1) Tryz.underlying42 rfl (infoEP HP.out)
        (try simp only [Act.put, List.getElem_toArray, List.getElem_cons_succ, List.getElem_cons_zero, List.setIfInBounds_toArray, List.set_cons_zero, List.set_cons_succ])
        refine wpAnyH_take (i := 4) (v := .slice A2 m cap2) rfl (by kernel_rfl) (by kernel_rfl) (by kernel_rfl) (fun _ _ _ h => h) (Or.inl ⟨by kernel_rfl, fun w' h => by first | (go_simp; done) | (go_simp; rfl)⟩) s0 ?_
        (try simp only [Act.put, List.getElem_toArray, List.getElem_cons_succ, List.getElem_cons_zero, List.setIfInBounds_toArray, List.set_cons_zero, List.set_cons_succ])
        refine wpAnyH_take (i := 5) (v := .int .i64 (k : Int)) rfl (by kernel_rfl) (by kernel_rfl) (by kernel_rfl) (fun _ _ _ h => h) (Or.inl ⟨by kernel_rfl, fun w' h => by first | (go_simp; done) | (go_simp; rfl)⟩) s0 ?_
        (try simp only [Act.put, List.getElem_toArray, List.getElem_cons_succ, List.getElem_cons_zero, List.setIfInBounds_toArray, List.set_cons_zero, List.set_cons_succ])
        refine wpAnyH_take (i := 6) (v := .int .i64 ((k - 1 : Nat) : Int)) rfl (by kernel_rfl) (by kernel_rfl) (by kernel_rfl) (fun _ _ _ h => h) (Or.inl ⟨by kernel_rfl, fun w' h => by first | (go_simp; done) | (go_simp; rfl)⟩) s0 ?_
        (try simp only [Act.put, List.getElem_toArray, List.getElem_cons_succ, List.getElem_cons_zero, List.setIfInBounds_toArray, List.set_cons_zero, List.set_cons_succ])
        refine wpAnyH_take (i := 7) (v := .pointer (some ⟨G2, (k - 1) * 19, none⟩)) rfl (by kernel_rfl) (by kernel_rfl) (by kernel_rfl) (fun _ _ _ h => h) (Or.inl ⟨by kernel_rfl, fun w' h => by have hf := hidx w'; first | (go_simp; done) | (go_simp; rfl)⟩) s0 ?_
        (try simp only [Act.put, List.getElem_toArray, List.getElem_cons_succ, List.getElem_cons_zero, List.setIfInBounds_toArray, List.set_cons_zero, List.set_cons_succ])
        refine wpAnyH_take (i := 8) (v := .pointer (some ⟨G2, (k - 1) * 19, none⟩)) rfl (by kernel_rfl) (by kernel_rfl) (by kernel_rfl) (fun _ _ _ h => h) (Or.inl ⟨by kernel_rfl, fun w' h => by first | (go_simp; done) | (go_simp; rfl)⟩) s0 ?_
        (try simp only [Act.put, List.getElem_toArray, List.getElem_cons_succ, List.getElem_cons_zero, List.setIfInBounds_toArray, List.set_cons_zero, List.set_cons_succ])
        refine wpAnyH_take (i := 9) (v := .agg (lP e.p).toArray) rfl ?ma9b ?ma9c ?ma9d (fun _ _ _ h => h) ?ma9e s0 ?ma9f
        case ma9b => kernel_rfl
        case ma9c => kernel_rfl
        case ma9d => kernel_rfl
        case ma9e =>
          refine yieldsIf_load_mid ?ma9g 42 (.tmp 34) ?ma9h G2 ((k - 1) * 19) ?ma9i (lP e.p) _ ?ma9j Tryz.underlying42 ?ma9k (infoEP HOE.out)
          case ma9g => kernel_rfl
          case ma9h => kernel_rfl
          case ma9i => kernel_rfl
          case ma9k => kernel_rfl
          case ma9j => exact fun w' h => part_pf (HSx.out w' h).2.1
        (try simp only [Act.put, List.getElem_toArray, List.getElem_cons_succ, List.getElem_cons_zero, List.setIfInBounds_toArray, List.set_cons_zero, List.set_cons_succ])
        refine held_step (i := 10) (by kernel_rfl) rfl (by kernel_rfl) (fun K hK => ?_)
        go_wp2_with (go_at_call 45; refine (ref05_Compare p e.p HP.out HOE.out w5).mono ?_; rintro r w6 ⟨rfl, hb⟩; have s1 := HSt.out _ _ s0 hb; clear hb)
        refine hK.out _ _ s1 ?_
        clear hK K
        (try simp only [Act.put, List.getElem_toArray, List.getElem_cons_succ, List.getElem_cons_zero, List.setIfInBounds_toArray, List.set_cons_zero, List.set_cons_succ])
        refine wpAnyH_take (i := 11) (v := .bool true) rfl (by kernel_rfl) (by kernel_rfl) (by kernel_rfl) (fun _ _ _ h => h) (Or.inl ⟨by kernel_rfl, fun w' h => by first | (go_simp; done) | (go_simp; rfl)⟩) s1 ?_
        (try simp only [Act.put, List.getElem_toArray, List.getElem_cons_succ, List.getElem_cons_zero, List.setIfInBounds_toArray, List.set_cons_zero, List.set_cons_succ])
        refine wpAnyH_take (i := 12) (v := .bool true) rfl (by kernel_rfl) (by kernel_rfl) (by kernel_rfl) (fun _ _ _ h => h) (Or.inl ⟨by kernel_rfl, fun w' h => by first | (go_simp; done) | (go_simp; rfl)⟩) s1 ?_
        (try simp only [Act.put, List.getElem_toArray, List.getElem_cons_succ, List.getElem_cons_zero, List.setIfInBounds_toArray, List.set_cons_zero, List.set_cons_succ])
        refine wpAnyH_done (by kernel_rfl) ?_ _
        have HX6 := Aside0.mk (HSx.out _ s1).1
        have HB6 := Aside0.mk (below_step HB4.out (HSx.out _ s1).2.2)
        clear s0 s1
        go_wp2
        go_roundw
        case rel => exact ⟨k - 1, (by first | rfl | exact congrArg (Value.int .i64) HE4.out), ⟨by have := HI.out; omega⟩, ⟨fun j x hj hx => by
          by_cases hjk : j = k - 1
          · rw [hjk, HEE.out] at hx
            cases hx
            exact HC.out
          · exact HJ.out j x (by omega) hx⟩, ⟨HX6.out, HB6.out⟩⟩
        case measure =>
          (try rw [HE4.out])
          show (((k - 1 : Nat) : Int)).toNat < ((k : Int)).toNat
          rw [Int.toNat_natCast, Int.toNat_natCast]
          have := HK0.out
          omega
      · have c2 : decide (cmpP p e.p < 0) = false := decide_eq_false hc
        have HPA := Aside0.mk (set_parts HL.out HS.out HP.out (k := k) (by have := HI.out; have := HM2.out; omega) HJ.out (fun x _ hx => by rw [HEE.out] at hx; cases hx; exact hc) v)
        clear hc
        have HNE := Aside0.mk (show dropE l p ≠ [] by
          intro h
          have h1 := HEE.out
          rw [h] at h1
          simp at h1)
        go_wp2
        obtain ⟨S, hS⟩ : ∃ S : World → Prop, S = fun w' => w'.heap[g4]? = some (.cells (eP p) 42 (0, 0)) ∧ w'.rangeAt G2 ((k - 1) * 19) (lE e) ∧ Below wr.heap.size wr w' := ⟨_, rfl⟩
        have HSx := Aside0.mk (show ∀ x : World, S x → x.heap[g4]? = some (.cells (eP p) 42 (0, 0)) ∧ x.rangeAt G2 ((k - 1) * 19) (lE e) ∧ Below wr.heap.size wr x by intro b h; rw [hS] at h; exact h)
        have HSt := Aside0.mk (show ∀ a b : World, S a → Below a.heap.size a b → S b by
          intro a b h hb
          rw [hS] at h ⊢
          exact ⟨blk_below h.1 hb, range_below h.2.1 hb, below_step h.2.2 hb⟩)
        have s0 : S wr.drew := by rw [hS]; exact ⟨blk_later HX.out, range_below HR.out (bel_later (Below.refl _ _)), bel_later (Below.refl _ _)⟩
        clear hS
        refine wp_region_held_drew (S := S) (by kernel_rfl) s0 (fun _ => ?_)
        refine anyH_world s0 (fun w5 s5 => ?_)
        clear s0
        have s0 := s5
        clear s5
        refine wpAnyH_take (i := 0) (v := .int .i64 (k : Int)) rfl (by kernel_rfl) (by kernel_rfl) (by kernel_rfl) (fun _ _ _ h => h) (Or.inl ⟨by kernel_rfl, fun w' h => by first | (go_simp; done) | (go_simp; rfl)⟩) s0 ?_
        (try simp only [Act.put, List.getElem_toArray, List.getElem_cons_succ, List.getElem_cons_zero, List.setIfInBounds_toArray, List.set_cons_zero, List.set_cons_succ])
        refine wpAnyH_take (i := 1) (v := .bool true) rfl (by kernel_rfl) (by kernel_rfl) (by kernel_rfl) (fun _ _ _ h => h) (Or.inl ⟨by kernel_rfl, fun w' h => by first | (go_simp; done) | (go_simp; rfl)⟩) s0 ?_
        (try simp only [Act.put, List.getElem_toArray, List.getElem_cons_succ, List.getElem_cons_zero, List.setIfInBounds_toArray, List.set_cons_zero, List.set_cons_succ])
        refine wpAnyH_take (i := 2) (v := .bool true) rfl (by kernel_rfl) (by kernel_rfl) (by kernel_rfl) (fun _ _ _ h => h) (Or.inl ⟨by kernel_rfl, fun w' h => by first | (go_simp; done) | (go_simp; rfl)⟩) s0 ?_
        (try simp only [Act.put, List.getElem_toArray, List.getElem_cons_succ, List.getElem_cons_zero, List.setIfInBounds_toArray, List.set_cons_zero, List.set_cons_succ])
        refine wpAnyH_take (i := 3) (v := .agg (eP p)) rfl ?qb3b ?qb3c ?qb3d (fun _ _ _ h => h) ?qb3e s0 ?qb3f
        case qb3b => kernel_rfl
        case qb3c => kernel_rfl
        case qb3d => kernel_rfl
        case qb3e => exact yields_row (by kernel_rfl) 42 (.tmp 4) rfl g4 rfl 42 (eP p) (0, 0) _ (fun w' h => (HSx.out w' h).1) Tryz.underlying42 rfl (infoEP HP.out)
        (try simp only [Act.put, List.getElem_toArray, List.getElem_cons_succ, List.getElem_cons_zero, List.setIfInBounds_toArray, List.set_cons_zero, List.set_cons_succ])
        refine wpAnyH_take (i := 4) (v := .slice A2 m cap2) rfl (by kernel_rfl) (by kernel_rfl) (by kernel_rfl) (fun _ _ _ h => h) (Or.inl ⟨by kernel_rfl, fun w' h => by first | (go_simp; done) | (go_simp; rfl)⟩) s0 ?_
        (try simp only [Act.put, List.getElem_toArray, List.getElem_cons_succ, List.getElem_cons_zero, List.setIfInBounds_toArray, List.set_cons_zero, List.set_cons_succ])
        refine wpAnyH_take (i := 5) (v := .int .i64 (k : Int)) rfl (by kernel_rfl) (by kernel_rfl) (by kernel_rfl) (fun _ _ _ h => h) (Or.inl ⟨by kernel_rfl, fun w' h => by first | (go_simp; done) | (go_simp; rfl)⟩) s0 ?_
        (try simp only [Act.put, List.getElem_toArray, List.getElem_cons_succ, List.getElem_cons_zero, List.setIfInBounds_toArray, List.set_cons_zero, List.set_cons_succ])
        refine wpAnyH_take (i := 6) (v := .int .i64 ((k - 1 : Nat) : Int)) rfl (by kernel_rfl) (by kernel_rfl) (by kernel_rfl) (fun _ _ _ h => h) (Or.inl ⟨by kernel_rfl, fun w' h => by first | (go_simp; done) | (go_simp; rfl)⟩) s0 ?_
        (try simp only [Act.put, List.getElem_toArray, List.getElem_cons_succ, List.getElem_cons_zero, List.setIfInBounds_toArray, List.set_cons_zero, List.set_cons_succ])
        refine wpAnyH_take (i := 7) (v := .pointer (some ⟨G2, (k - 1) * 19, none⟩)) rfl (by kernel_rfl) (by kernel_rfl) (by kernel_rfl) (fun _ _ _ h => h) (Or.inl ⟨by kernel_rfl, fun w' h => by have hf := hidx w'; first | (go_simp; done) | (go_simp; rfl)⟩) s0 ?_
        (try simp only [Act.put, List.getElem_toArray, List.getElem_cons_succ, List.getElem_cons_zero, List.setIfInBounds_toArray, List.set_cons_zero, List.set_cons_succ])
        refine wpAnyH_take (i := 8) (v := .pointer (some ⟨G2, (k - 1) * 19, none⟩)) rfl (by kernel_rfl) (by kernel_rfl) (by kernel_rfl) (fun _ _ _ h => h) (Or.inl ⟨by kernel_rfl, fun w' h => by first | (go_simp; done) | (go_simp; rfl)⟩) s0 ?_
        (try simp only [Act.put, List.getElem_toArray, List.getElem_cons_succ, List.getElem_cons_zero, List.setIfInBounds_toArray, List.set_cons_zero, List.set_cons_succ])
        refine wpAnyH_take (i := 9) (v := .agg (lP e.p).toArray) rfl ?mb9b ?mb9c ?mb9d (fun _ _ _ h => h) ?mb9e s0 ?mb9f
        case mb9b => kernel_rfl
        case mb9c => kernel_rfl
        case mb9d => kernel_rfl
        case mb9e =>
          refine yieldsIf_load_mid ?mb9g 42 (.tmp 34) ?mb9h G2 ((k - 1) * 19) ?mb9i (lP e.p) _ ?mb9j Tryz.underlying42 ?mb9k (infoEP HOE.out)
          case mb9g => kernel_rfl
          case mb9h => kernel_rfl
          case mb9i => kernel_rfl
          case mb9k => kernel_rfl
          case mb9j => exact fun w' h => part_pf (HSx.out w' h).2.1
        (try simp only [Act.put, List.getElem_toArray, List.getElem_cons_succ, List.getElem_cons_zero, List.setIfInBounds_toArray, List.set_cons_zero, List.set_cons_succ])
        refine held_step (i := 10) (by kernel_rfl) rfl (by kernel_rfl) (fun K hK => ?_)
        go_wp2_with (go_at_call 45; refine (ref05_Compare p e.p HP.out HOE.out w5).mono ?_; rintro r w6 ⟨rfl, hb⟩; have s1 := HSt.out _ _ s0 hb; clear hb)
        refine hK.out _ _ s1 ?_
        clear hK K
        (try simp only [Act.put, List.getElem_toArray, List.getElem_cons_succ, List.getElem_cons_zero, List.setIfInBounds_toArray, List.set_cons_zero, List.set_cons_succ])
        refine wpAnyH_take (i := 11) (v := .bool false) rfl (by kernel_rfl) (by kernel_rfl) (by kernel_rfl) (fun _ _ _ h => h) (Or.inl ⟨by kernel_rfl, fun w' h => by first | (go_simp; done) | (go_simp; rfl)⟩) s1 ?_
        (try simp only [Act.put, List.getElem_toArray, List.getElem_cons_succ, List.getElem_cons_zero, List.setIfInBounds_toArray, List.set_cons_zero, List.set_cons_succ])
        refine wpAnyH_take (i := 12) (v := .bool false) rfl (by kernel_rfl) (by kernel_rfl) (by kernel_rfl) (fun _ _ _ h => h) (Or.inl ⟨by kernel_rfl, fun w' h => by first | (go_simp; done) | (go_simp; rfl)⟩) s1 ?_
        (try simp only [Act.put, List.getElem_toArray, List.getElem_cons_succ, List.getElem_cons_zero, List.setIfInBounds_toArray, List.set_cons_zero, List.set_cons_succ])
        refine wpAnyH_done (by kernel_rfl) ?_ _
        have HX6 := Aside0.mk (HSx.out _ s1).1
        have HB6 := Aside0.mk (below_step HB4.out (HSx.out _ s1).2.2)
        clear s0 s1
        have HNS := Aside0.mk (show ∃ cur, w4.heap[G2]? = some (.cells cur 52 (0, 0)) ∧ A2 = some ⟨G2, 0, none⟩ ∧ _ ∧ (dropE l p).length ≤ cap2 from by
          rcases HG2.out with ⟨_, _, h⟩ | h
          · exact absurd h HNE.out
          · exact h)
        obtain ⟨cur, hcur, hA, hbG, hle⟩ := HNS.out
        subst hA
        have HC6 := Aside0.mk (flE_cells (rd_below HRD2.out HB6.out).at_ (ok_dropE HL.out p))
        have HKM := Aside0.mk (show k ≤ m ∧ m ≤ cap2 ∧ k ≤ cap2 ∧ m ≤ 1000 by have := HI.out; have := HM2.out; have := HML.out; omega)
        have hkc : k ≤ cap2 := HKM.out.2.2.1
        have hkm : k ≤ m := HKM.out.1
        have hmc : m ≤ cap2 := HKM.out.2.1
        have HTK := Aside0.mk (show (flE ((dropE l p).take k)).length = k * 19 by rw [flE_len (fun e he => ok_dropE HL.out p e (List.mem_of_mem_take he)), List.length_take, HM2.out, Nat.min_eq_left HKM.out.1])
        have HDK := Aside0.mk (show (flE ((dropE l p).drop k)).length = (m - k) * 19 by rw [flE_len (fun e he => ok_dropE HL.out p e (List.mem_of_mem_drop he)), List.length_drop, HM2.out])
        have HN1 := Aside0.mk (show ∀ j u, (flE ((dropE l p).take k))[j]? = some u → w6.cell? ((⟨G2, 0, none⟩ : Addr).add j) = some u by
          intro j u hj
          rw [add_plain]
          refine HC6.out j u ?_
          rw [flE_take (ok_dropE HL.out p) k (by rw [HM2.out]; exact HKM.out.1), List.getElem?_take] at hj
          split at hj
          · exact hj
          · cases hj)
        obtain ⟨A3, hA3, hsrc⟩ : ∃ A3 : Addr, (if cap2 = k then (some (⟨G2, 0, none⟩ : Addr)) else some ⟨G2, k * 19, none⟩) = some A3 ∧ ∀ t u, (flE ((dropE l p).drop k))[t]? = some u → w6.cell? (A3.add t) = some u := by
          by_cases h : cap2 = k
          · refine ⟨⟨G2, 0, none⟩, by simp [h], fun t u hu => ?_⟩
            have h0 : (flE ((dropE l p).drop k)).length = 0 := by rw [HDK.out]; have := HKM.out; omega
            rw [List.length_eq_zero_iff.1 h0] at hu
            simp at hu
          · refine ⟨⟨G2, k * 19, none⟩, by simp [h], fun t u hu => ?_⟩
            rw [Addr.add_lit]
            refine HC6.out (k * 19 + t) u ?_
            rw [flE_drop (ok_dropE HL.out p) k (by rw [HM2.out]; exact HKM.out.1)] at hu
            rwa [List.getElem?_drop] at hu
        have HN3 := Aside0.mk hsrc
        clear hsrc hcur hbG hle
        go_wp2_with (at_builtin; refine wpList_append_own _ rfl _ _ 25 rfl w6.heap.size 52 i0 (.agg (eE noE)) 19 40 Tryz.underlying25 hi0 hz0 hz1 hz2 (eE_size ok_noE) (by decide) _ _ _ rfl (World.ownsRow_nil _ _ _ _) ⟨G2, 0, none⟩ k cap2 (flE ((dropE l p).take k)) rfl HTK.out HN1.out (flE_one _) (by have := HKM.out; simp only [maxLen]; omega) (by have := HKM.out; omega) (Nat.le_refl _) ?_)
        intro v1 w7 hown1 hgr1 _
        (try simp only [Nat.zero_add, List.nil_append] at hown1)
        have HB7 := Aside0.mk (below_grown (Below.refl w6.heap.size w6) hgr1 (fun x hx => by cases hx) (Nat.le_refl _))
        have HX7 := Aside0.mk (blk_below HX6.out HB7.out)
        have HO7 := Aside0.mk hown1
        clear hown1 hgr1
        go_wp2_with (first
          | ((with_reducible refine gate_dst (N := 47) rfl ?_); refine wpList_load_row rfl 42 (.tmp 4) rfl g4 rfl 42 (eP p) (0, 0) _ HX7.out Tryz.underlying42 rfl (infoEP HP.out) ?_)
          | ((with_reducible refine gate_dst (N := 49) rfl ?_); refine wpList_buildTo rfl 52 _ rfl _ rfl (eE ⟨p, v⟩) ?hbbb ?_; (case hbbb => rw [List.map_toArray]; exact built_er HP.out v))
          | ((with_reducible refine gate_dst (N := 50) rfl ?_); refine wp_lit_er rfl (.tmp 49) rfl ⟨p, v⟩ HP.out rfl ?_; intro vb w8 hvb hb8; have HO8 := Aside0.mk (own_below HO7.out hb8); have HV8 := Aside0.mk (val_at hvb); have HB8 := Aside0.mk (below_step HB7.out hb8); clear hvb hb8)
          | (at_builtin; refine wpList_append_own _ rfl _ _ 25 rfl w6.heap.size 52 i0 (.agg (eE noE)) 19 40 Tryz.underlying25 hi0 hz0 hz1 hz2 (eE_size ok_noE) (by decide) _ _ _ rfl HO8.out ⟨vb, 0, none⟩ 1 1 (lE ⟨p, v⟩) rfl (by rw [lE_len (e := ⟨p, v⟩) HP.out]) HV8.out (lE_one _) (by have := HKM.out; simp only [maxLen]; omega) (by have := HKM.out; omega) (below_size HB8.out) ?_))
        intro v2 w9 hown2 hgr2 _
        have HB9 := Aside0.mk (below_grown HB8.out hgr2 (fun x hx => (HO8.out.lt x hx).1) (Nat.le_refl _))
        have HO9 := Aside0.mk hown2
        have HN9 := Aside0.mk (show ∀ t u, (flE ((dropE l p).drop k))[t]? = some u → w9.cell? (A3.add t) = some u from fun t u hu => cell_below (HN3.out t u hu) HB9.out)
        clear hown2 hgr2
        go_wp2_with (at_builtin; refine wpList_append_own _ rfl _ _ 25 rfl w6.heap.size 52 i0 (.agg (eE noE)) 19 40 Tryz.underlying25 hi0 hz0 hz1 hz2 (eE_size ok_noE) (by decide) _ _ _ rfl HO9.out A3 (m - k) (cap2 - k) (flE ((dropE l p).drop k)) rfl HDK.out HN9.out (flE_one _) (by have := HKM.out; simp only [maxLen]; omega) (by have := HKM.out; omega) (below_size HB9.out) ?_)
        intro v3 w10 hown3 hgr3 _
        have HB10 := Aside0.mk (below_grown HB9.out hgr3 (fun x hx => (HO9.out.lt x hx).1) (Nat.le_refl _))
        have HO10 := Aside0.mk hown3
        clear hown3 hgr3
        go_wp2
        go_ret2
        have hbw := below_step HB.out (below_step HB6.out HB10.out)
        refine ⟨v3, rfl, ?_, hbw⟩
        have hlen : (setE l p v).length = k + 1 + (m - k) := by rw [← HPA.out, List.length_append, List.length_cons, List.length_take, List.length_drop, HM2.out, Nat.min_eq_left HKM.out.1]; omega
        have hfl : flE (setE l p v) = flE ((dropE l p).take k) ++ lE ⟨p, v⟩ ++ flE ((dropE l p).drop k) := by rw [← HPA.out, flE_append, flE_cons, List.append_assoc]
        have hown4 := HO10.out
        (try rw [List.append_assoc] at hown4)
        rw [hlen, hfl, List.append_assoc]
        exact own_less hown4 (below_size (below_step HB.out HB6.out))
    · have c0 : decide ((0 : Int) < (k : Int)) = false := decide_eq_false (by omega)
      have c1 : decide (0 < k) = false := decide_eq_false hk0
      have HKZ := Aside0.mk (show k = 0 by omega)
      have HPA := Aside0.mk (set_parts HL.out HS.out HP.out (k := k) (by omega) HJ.out (fun x h _ => absurd h hk0) v)
      clear hk0
      go_wp2
      obtain ⟨S, hS⟩ : ∃ S : World → Prop, S = fun w' => w'.heap[g4]? = some (.cells (eP p) 42 (0, 0)) ∧ Below wr.heap.size wr w' := ⟨_, rfl⟩
      have HSx := Aside0.mk (show ∀ x : World, S x → x.heap[g4]? = some (.cells (eP p) 42 (0, 0)) ∧ Below wr.heap.size wr x by intro b h; rw [hS] at h; exact h)
      have s0 : S wr.drew := by rw [hS]; exact ⟨blk_later HX.out, bel_later (Below.refl _ _)⟩
      clear hS
      refine wp_region_held_drew (S := S) (by kernel_rfl) s0 (fun _ => ?_)
      refine anyH_world s0 (fun w6 s5 => ?_)
      clear s0
      have s0 := s5
      clear s5
      refine wpAnyH_take (i := 0) (v := .int .i64 (k : Int)) rfl (by kernel_rfl) (by kernel_rfl) (by kernel_rfl) (fun _ _ _ h => h) (Or.inl ⟨by kernel_rfl, fun w' h => by first | (go_simp; done) | (go_simp; rfl)⟩) s0 ?_
      (try simp only [Act.put, List.getElem_toArray, List.getElem_cons_succ, List.getElem_cons_zero, List.setIfInBounds_toArray, List.set_cons_zero, List.set_cons_succ])
      refine wpAnyH_take (i := 1) (v := .bool false) rfl (by kernel_rfl) (by kernel_rfl) (by kernel_rfl) (fun _ _ _ h => h) (Or.inl ⟨by kernel_rfl, fun w' h => by first | (go_simp; done) | (go_simp; rfl)⟩) s0 ?_
      (try simp only [Act.put, List.getElem_toArray, List.getElem_cons_succ, List.getElem_cons_zero, List.setIfInBounds_toArray, List.set_cons_zero, List.set_cons_succ])
      refine wpAnyH_take (i := 2) (v := .bool false) rfl (by kernel_rfl) (by kernel_rfl) (by kernel_rfl) (fun _ _ _ h => h) (Or.inl ⟨by kernel_rfl, fun w' h => by first | (go_simp; done) | (go_simp; rfl)⟩) s0 ?_
      (try simp only [Act.put, List.getElem_toArray, List.getElem_cons_succ, List.getElem_cons_zero, List.setIfInBounds_toArray, List.set_cons_zero, List.set_cons_succ])
      refine wpAnyH_take (i := 3) (v := undef) rfl (by kernel_rfl) (by kernel_rfl) (by kernel_rfl) (fun _ _ _ h => h) (Or.inr ⟨by kernel_rfl, rfl⟩) s0 ?_
      (try simp only [Act.put, List.getElem_toArray, List.getElem_cons_succ, List.getElem_cons_zero, List.setIfInBounds_toArray, List.set_cons_zero, List.set_cons_succ])
      refine wpAnyH_take (i := 4) (v := undef) rfl (by kernel_rfl) (by kernel_rfl) (by kernel_rfl) (fun _ _ _ h => h) (Or.inr ⟨by kernel_rfl, rfl⟩) s0 ?_
      (try simp only [Act.put, List.getElem_toArray, List.getElem_cons_succ, List.getElem_cons_zero, List.setIfInBounds_toArray, List.set_cons_zero, List.set_cons_succ])
      refine wpAnyH_take (i := 5) (v := undef) rfl (by kernel_rfl) (by kernel_rfl) (by kernel_rfl) (fun _ _ _ h => h) (Or.inr ⟨by kernel_rfl, rfl⟩) s0 ?_
      (try simp only [Act.put, List.getElem_toArray, List.getElem_cons_succ, List.getElem_cons_zero, List.setIfInBounds_toArray, List.set_cons_zero, List.set_cons_succ])
      refine wpAnyH_take (i := 6) (v := undef) rfl (by kernel_rfl) (by kernel_rfl) (by kernel_rfl) (fun _ _ _ h => h) (Or.inr ⟨by kernel_rfl, rfl⟩) s0 ?_
      (try simp only [Act.put, List.getElem_toArray, List.getElem_cons_succ, List.getElem_cons_zero, List.setIfInBounds_toArray, List.set_cons_zero, List.set_cons_succ])
      refine wpAnyH_take (i := 7) (v := undef) rfl (by kernel_rfl) (by kernel_rfl) (by kernel_rfl) (fun _ _ _ h => h) (Or.inr ⟨by kernel_rfl, rfl⟩) s0 ?_
      (try simp only [Act.put, List.getElem_toArray, List.getElem_cons_succ, List.getElem_cons_zero, List.setIfInBounds_toArray, List.set_cons_zero, List.set_cons_succ])
      refine wpAnyH_take (i := 8) (v := undef) rfl (by kernel_rfl) (by kernel_rfl) (by kernel_rfl) (fun _ _ _ h => h) (Or.inr ⟨by kernel_rfl, rfl⟩) s0 ?_
      (try simp only [Act.put, List.getElem_toArray, List.getElem_cons_succ, List.getElem_cons_zero, List.setIfInBounds_toArray, List.set_cons_zero, List.set_cons_succ])
      refine wpAnyH_take (i := 9) (v := undef) rfl (by kernel_rfl) (by kernel_rfl) (by kernel_rfl) (fun _ _ _ h => h) (Or.inr ⟨by kernel_rfl, rfl⟩) s0 ?_
      (try simp only [Act.put, List.getElem_toArray, List.getElem_cons_succ, List.getElem_cons_zero, List.setIfInBounds_toArray, List.set_cons_zero, List.set_cons_succ])
      refine wpAnyH_take (i := 10) (v := undef) rfl (by kernel_rfl) (by kernel_rfl) (by kernel_rfl) (fun _ _ _ h => h) (Or.inr ⟨by kernel_rfl, rfl⟩) s0 ?_
      (try simp only [Act.put, List.getElem_toArray, List.getElem_cons_succ, List.getElem_cons_zero, List.setIfInBounds_toArray, List.set_cons_zero, List.set_cons_succ])
      refine wpAnyH_take (i := 11) (v := undef) rfl (by kernel_rfl) (by kernel_rfl) (by kernel_rfl) (fun _ _ _ h => h) (Or.inr ⟨by kernel_rfl, rfl⟩) s0 ?_
      (try simp only [Act.put, List.getElem_toArray, List.getElem_cons_succ, List.getElem_cons_zero, List.setIfInBounds_toArray, List.set_cons_zero, List.set_cons_succ])
      refine wpAnyH_take (i := 12) (v := .bool false) rfl (by kernel_rfl) (by kernel_rfl) (by kernel_rfl) (fun _ _ _ h => h) (Or.inl ⟨by kernel_rfl, fun w' h => by first | (go_simp; done) | (go_simp; rfl)⟩) s0 ?_
      (try simp only [Act.put, List.getElem_toArray, List.getElem_cons_succ, List.getElem_cons_zero, List.setIfInBounds_toArray, List.set_cons_zero, List.set_cons_succ])
      refine wpAnyH_done (by kernel_rfl) ?_ _
      have HX6 := Aside0.mk (HSx.out _ s0).1
      have HB6 := Aside0.mk (below_step HB4.out (HSx.out _ s0).2)
      clear s0
      rcases HG2.out with ⟨hA, hc2, hR⟩ | hsome
      · subst hA
        subst hc2
        have hm0 : m = 0 := by rw [← HM2.out, hR]; rfl
        have hk00 := HKZ.out
        subst hk00
        subst hm0
        have HRE := Aside0.mk hR
        clear hR
        have HTE := Aside0.mk (show setE l p v = [⟨p, v⟩] by rw [← HPA.out, HRE.out]; rfl)
        go_wp2_with (first
          | (at_builtin; refine wpList_append_own_none rfl _ _ 25 rfl w6.heap.size 52 i0 19 Tryz.underlying25 hi0 _ 0 [] rfl (World.ownsRow_nil _ _ _ _) rfl ?_)
          | ((with_reducible refine gate_dst (N := 47) rfl ?_); refine wpList_load_row rfl 42 (.tmp 4) rfl g4 rfl 42 (eP p) (0, 0) _ HX6.out Tryz.underlying42 rfl (infoEP HP.out) ?_)
          | ((with_reducible refine gate_dst (N := 49) rfl ?_); refine wpList_buildTo rfl 52 _ rfl _ rfl (eE ⟨p, v⟩) ?hbb_n ?_; (case hbb_n => rw [List.map_toArray]; exact built_er HP.out v))
          | ((with_reducible refine gate_dst (N := 50) rfl ?_); refine wp_lit_er rfl (.tmp 49) rfl ⟨p, v⟩ HP.out rfl ?_; intro vb w8 hvb hb8; have HV8 := Aside0.mk (val_at hvb); have HB8 := Aside0.mk hb8; clear hvb hb8)
          | (at_builtin; refine wpList_append_own _ rfl _ _ 25 rfl w6.heap.size 52 i0 (.agg (eE noE)) 19 40 Tryz.underlying25 hi0 hz0 hz1 hz2 (eE_size ok_noE) (by decide) _ _ _ rfl (World.ownsRow_nil _ _ _ _) ⟨vb, 0, none⟩ 1 1 (lE ⟨p, v⟩) rfl (by rw [lE_len (e := ⟨p, v⟩) HP.out]) HV8.out (lE_one _) (by decide) (by decide) (below_size HB8.out) ?_))
        intro v2 w9 hown2 hgr2 _
        have HB9 := Aside0.mk (below_grown HB8.out hgr2 (fun x hx => by cases hx) (Nat.le_refl _))
        have HO9 := Aside0.mk hown2
        clear hown2 hgr2
        go_wp2_with (at_builtin; refine wpList_append_own_none rfl _ _ 25 rfl w6.heap.size 52 i0 19 Tryz.underlying25 hi0 _ _ _ rfl HO9.out rfl ?_)
        go_wp2
        go_ret2
        have hbw := below_step HB.out (below_step HB6.out HB9.out)
        refine ⟨v2, rfl, ?_, hbw⟩
        rw [HTE.out]
        have hf : flE [(⟨p, v⟩ : En)] = [] ++ lE ⟨p, v⟩ := by
          show lE ⟨p, v⟩ ++ [] = _
          simp
        rw [hf]
        exact own_less HO9.out (below_size (below_step HB.out HB6.out))
      · have HNS := Aside0.mk hsome
        clear hsome
        obtain ⟨cur, hcur, hA, hbG, hle⟩ := HNS.out
        subst hA
        have HC6 := Aside0.mk (flE_cells (rd_below HRD2.out HB6.out).at_ (ok_dropE HL.out p))
        have HKM := Aside0.mk (show k ≤ m ∧ m ≤ cap2 ∧ k ≤ cap2 ∧ m ≤ 1000 by have := HI.out; have := HM2.out; have := HML.out; omega)
        have hkc : k ≤ cap2 := HKM.out.2.2.1
        have hkm : k ≤ m := HKM.out.1
        have hmc : m ≤ cap2 := HKM.out.2.1
        have HTK := Aside0.mk (show (flE ((dropE l p).take k)).length = k * 19 by rw [flE_len (fun e he => ok_dropE HL.out p e (List.mem_of_mem_take he)), List.length_take, HM2.out, Nat.min_eq_left HKM.out.1])
        have HDK := Aside0.mk (show (flE ((dropE l p).drop k)).length = (m - k) * 19 by rw [flE_len (fun e he => ok_dropE HL.out p e (List.mem_of_mem_drop he)), List.length_drop, HM2.out])
        have HN1 := Aside0.mk (show ∀ j u, (flE ((dropE l p).take k))[j]? = some u → w6.cell? ((⟨G2, 0, none⟩ : Addr).add j) = some u by
          intro j u hj
          rw [add_plain]
          refine HC6.out j u ?_
          rw [flE_take (ok_dropE HL.out p) k (by rw [HM2.out]; exact HKM.out.1), List.getElem?_take] at hj
          split at hj
          · exact hj
          · cases hj)
        obtain ⟨A3, hA3, hsrc⟩ : ∃ A3 : Addr, (if cap2 = k then (some (⟨G2, 0, none⟩ : Addr)) else some ⟨G2, k * 19, none⟩) = some A3 ∧ ∀ t u, (flE ((dropE l p).drop k))[t]? = some u → w6.cell? (A3.add t) = some u := by
          by_cases h : cap2 = k
          · refine ⟨⟨G2, 0, none⟩, by simp [h], fun t u hu => ?_⟩
            have h0 : (flE ((dropE l p).drop k)).length = 0 := by rw [HDK.out]; have := HKM.out; omega
            rw [List.length_eq_zero_iff.1 h0] at hu
            simp at hu
          · refine ⟨⟨G2, k * 19, none⟩, by simp [h], fun t u hu => ?_⟩
            rw [Addr.add_lit]
            refine HC6.out (k * 19 + t) u ?_
            rw [flE_drop (ok_dropE HL.out p) k (by rw [HM2.out]; exact HKM.out.1)] at hu
            rwa [List.getElem?_drop] at hu
        have HN3 := Aside0.mk hsrc
        clear hsrc hcur hbG hle
        go_wp2_with (at_builtin; refine wpList_append_own _ rfl _ _ 25 rfl w6.heap.size 52 i0 (.agg (eE noE)) 19 40 Tryz.underlying25 hi0 hz0 hz1 hz2 (eE_size ok_noE) (by decide) _ _ _ rfl (World.ownsRow_nil _ _ _ _) ⟨G2, 0, none⟩ k cap2 (flE ((dropE l p).take k)) rfl HTK.out HN1.out (flE_one _) (by have := HKM.out; simp only [maxLen]; omega) (by have := HKM.out; omega) (Nat.le_refl _) ?_)
        intro v1 w7 hown1 hgr1 _
        (try simp only [Nat.zero_add, List.nil_append] at hown1)
        have HB7 := Aside0.mk (below_grown (Below.refl w6.heap.size w6) hgr1 (fun x hx => by cases hx) (Nat.le_refl _))
        have HX7 := Aside0.mk (blk_below HX6.out HB7.out)
        have HO7 := Aside0.mk hown1
        clear hown1 hgr1
        go_wp2_with (first
          | ((with_reducible refine gate_dst (N := 47) rfl ?_); refine wpList_load_row rfl 42 (.tmp 4) rfl g4 rfl 42 (eP p) (0, 0) _ HX7.out Tryz.underlying42 rfl (infoEP HP.out) ?_)
          | ((with_reducible refine gate_dst (N := 49) rfl ?_); refine wpList_buildTo rfl 52 _ rfl _ rfl (eE ⟨p, v⟩) ?hbbz ?_; (case hbbz => rw [List.map_toArray]; exact built_er HP.out v))
          | ((with_reducible refine gate_dst (N := 50) rfl ?_); refine wp_lit_er rfl (.tmp 49) rfl ⟨p, v⟩ HP.out rfl ?_; intro vb w8 hvb hb8; have HO8 := Aside0.mk (own_below HO7.out hb8); have HV8 := Aside0.mk (val_at hvb); have HB8 := Aside0.mk (below_step HB7.out hb8); clear hvb hb8)
          | (at_builtin; refine wpList_append_own _ rfl _ _ 25 rfl w6.heap.size 52 i0 (.agg (eE noE)) 19 40 Tryz.underlying25 hi0 hz0 hz1 hz2 (eE_size ok_noE) (by decide) _ _ _ rfl HO8.out ⟨vb, 0, none⟩ 1 1 (lE ⟨p, v⟩) rfl (by rw [lE_len (e := ⟨p, v⟩) HP.out]) HV8.out (lE_one _) (by have := HKM.out; simp only [maxLen]; omega) (by have := HKM.out; omega) (below_size HB8.out) ?_))
        intro v2 w9 hown2 hgr2 _
        have HB9 := Aside0.mk (below_grown HB8.out hgr2 (fun x hx => (HO8.out.lt x hx).1) (Nat.le_refl _))
        have HO9 := Aside0.mk hown2
        have HN9 := Aside0.mk (show ∀ t u, (flE ((dropE l p).drop k))[t]? = some u → w9.cell? (A3.add t) = some u from fun t u hu => cell_below (HN3.out t u hu) HB9.out)
        clear hown2 hgr2
        go_wp2_with (at_builtin; refine wpList_append_own _ rfl _ _ 25 rfl w6.heap.size 52 i0 (.agg (eE noE)) 19 40 Tryz.underlying25 hi0 hz0 hz1 hz2 (eE_size ok_noE) (by decide) _ _ _ rfl HO9.out A3 (m - k) (cap2 - k) (flE ((dropE l p).drop k)) rfl HDK.out HN9.out (flE_one _) (by have := HKM.out; simp only [maxLen]; omega) (by have := HKM.out; omega) (below_size HB9.out) ?_)
        intro v3 w10 hown3 hgr3 _
        have HB10 := Aside0.mk (below_grown HB9.out hgr3 (fun x hx => (HO9.out.lt x hx).1) (Nat.le_refl _))
        have HO10 := Aside0.mk hown3
        clear hown3 hgr3
        go_wp2
        go_ret2
        have hbw := below_step HB.out (below_step HB6.out HB10.out)
        refine ⟨v3, rfl, ?_, hbw⟩
        have hlen : (setE l p v).length = k + 1 + (m - k) := by rw [← HPA.out, List.length_append, List.length_cons, List.length_take, List.length_drop, HM2.out, Nat.min_eq_left HKM.out.1]; omega
        have hfl : flE (setE l p v) = flE ((dropE l p).take k) ++ lE ⟨p, v⟩ ++ flE ((dropE l p).drop k) := by rw [← HPA.out, flE_append, flE_cons, List.append_assoc]
        have hown4 := HO10.out
        (try rw [List.append_assoc] at hown4)
        rw [hlen, hfl, List.append_assoc]
        exact own_less hown4 (below_size (below_step HB.out HB6.out))
def longer : Option En → En → Bool
  | none, _ => true
  | some b, e => decide (b.p.n < e.p.n)
/-- The entry, of so many, that has an address, and the longest prefix. -/
def bestE (l : List En) (a : Ad) : Nat → Option En
  | 0 => none
  | i + 1 => match l[i]? with
    | none => bestE l a i
    | some e => if (hasB e.p a && longer (bestE l a i) e) = true then some e else bestE l a i
theorem best_yes {l : List En} {a : Ad} {i : Nat} {e : En} (he : l[i]? = some e) (h : (hasB e.p a && longer (bestE l a i) e) = true) : bestE l a (i + 1) = some e := by
  rw [bestE, he]
  exact if_pos h
theorem best_no {l : List En} {a : Ad} {i : Nat} {e : En} (he : l[i]? = some e) (h : (hasB e.p a && longer (bestE l a i) e) = false) : bestE l a (i + 1) = bestE l a i := by
  rw [bestE, he]
  exact if_neg (by rw [h]; decide)
set_option maxHeartbeats 8000000 in
set_option maxRecDepth 100000 in
theorem ref06_Find (A : Option Addr) (n cap G : Nat) (l : List En) (hl : okE l) (hnb : ∀ e ∈ l, e.p.n ≤ 1000000) (a : Ad) (ha : a.ok) (w : World) (hrd : Rd w 25 A n cap G l) (hn : n ≤ 1000000) :
    Calls Tryz.prog 16 #[.slice A n cap, .agg (eA a)] w fun r w' => r = .returned (.tuple #[.agg (eE ((bestE l a n).getD noE)), .bool (bestE l a n).isSome]) ∧ Below w.heap.size w w' := by
  have HB := Aside0.mk (Below.refl w.heap.size w)
  have HA := Aside0.mk ha
  have HL := Aside0.mk hl
  have HNB := Aside0.mk hnb
  have HRD := Aside0.mk hrd
  have HN := Aside0.mk hn
  clear ha hl hrd hn hnb
  go_enter Tryz.func16, Tryz.ntmps16
  go_wp2_with (first
    | ((with_reducible refine gate_dst (N := 3) rfl ?_); refine box_event ?hg (N := 3) ?hd (cs := eA a) (t := 30) ?hr ?_; (case hd => rfl); (case hg => rfl); (case hr => first | (go_simp; done) | (go_simp; rfl)); intro g3 hg w1 hbox hb; have HX := Aside0.mk hbox; replace HB := Aside0.mk (below_step (bel_later HB.out) hb); clear hb hg hbox)
    | ((with_reducible refine gate_dst (N := 4) rfl ?_); refine box_event ?hg (N := 4) ?hd (cs := eE noE) (t := 52) ?hr ?_; (case hd => rfl); (case hg => rfl); (case hr => first | (go_simp; done) | (go_simp; rfl)); intro g4 hg w2 hbox hb; have HY := Aside0.mk hbox; have HG4 := Aside0.mk (show w.heap.size ≤ g4 by rw [hg]; exact below_size (bel_later HB.out)); replace HX := Aside0.mk (blk_below (blk_later HX.out) hb); replace HB := Aside0.mk (below_step (bel_later HB.out) hb); clear hb hg hbox))
  go_loopw [6, 7] (fun v6 v7 wr => ∃ (i : Nat) (b : Int), v6 = .int .i64 b ∧ v7 = .int .i64 (i : Int) ∧ Aside0 (i ≤ n) ∧ Aside0 ((b = -1 ∧ bestE l a i = none) ∨ ∃ (j : Nat) (e : En), b = (j : Int) ∧ j < n ∧ l[j]? = some e ∧ bestE l a i = some e) ∧ Aside0 (wr.heap[g3]? = some (.cells (eA a) 30 (0, 0)) ∧ wr.heap[g4]? = some (.cells (eE noE) 52 (0, 0)) ∧ Below w.heap.size w wr)) (fun _ v7 _ => n - (intOf v7).toNat)
  case atStart => exact ⟨0, -1, rfl, rfl, ⟨Nat.zero_le _⟩, ⟨.inl ⟨rfl, rfl⟩⟩, ⟨HX.out, HY.out, HB.out⟩⟩
  case round =>
    obtain ⟨i, b, rfl, rfl, HI, HBE, HE⟩ := hrel
    clear HX HY HB
    have HX := Aside0.mk HE.out.1
    have HY := Aside0.mk HE.out.2.1
    have HB := Aside0.mk HE.out.2.2
    clear HE
    by_cases hlt : i < n
    · have c0 : decide ((i : Int) < (n : Int)) = true := decide_eq_true (by omega)
      have c1 : decide (i < n) = true := decide_eq_true hlt
      obtain ⟨e, he⟩ : ∃ e, l[i]? = some e := ⟨l[i]'(by have := HRD.out.len; omega), List.getElem?_eq_getElem _⟩
      have HEE := Aside0.mk he
      have HOE := Aside0.mk (HL.out e (List.mem_of_getElem? he))
      have hidx := fun w => HRD.out.idx w i hlt
      have HLT := Aside0.mk hlt
      have e4 : wrap64 ((i : Int) + 1) = ((i + 1 : Nat) : Int) := wrap_sm1 i (by have := HN.out; omega)
      have HE4 := Aside0.mk e4
      have HR := Aside0.mk ((rd_below HRD.out HB.out).at_ i e he)
      clear hlt he
      have HNE := Aside0.mk (HNB.out e (List.mem_of_getElem? HEE.out))
      cases hhv : hasB e.p a
      · have HHV := Aside0.mk hhv
        have HBN := Aside0.mk (best_no HEE.out (show (hasB e.p a && longer (bestE l a i) e) = false by rw [hhv]; rfl))
        clear hhv
        go_wp2
        obtain ⟨S, hS⟩ : ∃ S : World → Prop, S = fun w' => w'.heap[g3]? = some (.cells (eA a) 30 (0, 0)) ∧ w'.rangeAt G (i * 19) (lE e) ∧ Below wr.heap.size wr w' := ⟨_, rfl⟩
        have HSx := Aside0.mk (show ∀ x : World, S x → x.heap[g3]? = some (.cells (eA a) 30 (0, 0)) ∧ x.rangeAt G (i * 19) (lE e) ∧ Below wr.heap.size wr x by intro b h; rw [hS] at h; exact h)
        have HSt := Aside0.mk (show ∀ a b : World, S a → Below a.heap.size a b → S b by
          intro a b h hb
          rw [hS] at h ⊢
          exact ⟨blk_below h.1 hb, range_below h.2.1 hb, below_step h.2.2 hb⟩)
        have s0 : S wr.drew := by rw [hS]; exact ⟨blk_later HX.out, range_below HR.out (bel_later (Below.refl _ _)), bel_later (Below.refl _ _)⟩
        clear hS
        refine wp_region_held_drew (S := S) (by kernel_rfl) s0 (fun _ => ?_)
        refine anyH_world s0 (fun w5 s5 => ?_)
        clear s0
        have s0 := s5
        clear s5
        refine wpAnyH_take (i := 0) (v := .slice A n cap) rfl (by kernel_rfl) (by kernel_rfl) (by kernel_rfl) (fun _ _ _ h => h) (Or.inl ⟨by kernel_rfl, fun w' h => by first | (go_simp; done) | (go_simp; rfl)⟩) s0 ?_
        (try simp only [Act.put, List.getElem_toArray, List.getElem_cons_succ, List.getElem_cons_zero, List.setIfInBounds_toArray, List.set_cons_zero, List.set_cons_succ])
        refine wpAnyH_take (i := 1) (v := .int .i64 (i : Int)) rfl (by kernel_rfl) (by kernel_rfl) (by kernel_rfl) (fun _ _ _ h => h) (Or.inl ⟨by kernel_rfl, fun w' h => by first | (go_simp; done) | (go_simp; rfl)⟩) s0 ?_
        (try simp only [Act.put, List.getElem_toArray, List.getElem_cons_succ, List.getElem_cons_zero, List.setIfInBounds_toArray, List.set_cons_zero, List.set_cons_succ])
        refine wpAnyH_take (i := 2) (v := .pointer (some ⟨G, i * 19, none⟩)) rfl (by kernel_rfl) (by kernel_rfl) (by kernel_rfl) (fun _ _ _ h => h) (Or.inl ⟨by kernel_rfl, fun w' h => by have hf := hidx w'; first | (go_simp; done) | (go_simp; rfl)⟩) s0 ?_
        (try simp only [Act.put, List.getElem_toArray, List.getElem_cons_succ, List.getElem_cons_zero, List.setIfInBounds_toArray, List.set_cons_zero, List.set_cons_succ])
        refine wpAnyH_take (i := 3) (v := .pointer (some ⟨G, i * 19, none⟩)) rfl (by kernel_rfl) (by kernel_rfl) (by kernel_rfl) (fun _ _ _ h => h) (Or.inl ⟨by kernel_rfl, fun w' h => by first | (go_simp; done) | (go_simp; rfl)⟩) s0 ?_
        (try simp only [Act.put, List.getElem_toArray, List.getElem_cons_succ, List.getElem_cons_zero, List.setIfInBounds_toArray, List.set_cons_zero, List.set_cons_succ])
        refine wpAnyH_take (i := 4) (v := .agg (lP e.p).toArray) rfl ?ma4b ?ma4c ?ma4d (fun _ _ _ h => h) ?ma4e s0 ?ma4f
        case ma4b => kernel_rfl
        case ma4c => kernel_rfl
        case ma4d => kernel_rfl
        case ma4e =>
          refine yieldsIf_load_mid ?ma4g 42 (.tmp 18) ?ma4h G (i * 19) ?ma4i (lP e.p) _ ?ma4j Tryz.underlying42 ?ma4k (infoEP HOE.out)
          case ma4g => kernel_rfl
          case ma4h => kernel_rfl
          case ma4i => kernel_rfl
          case ma4k => kernel_rfl
          case ma4j => exact fun w' h => part_pf (HSx.out w' h).2.1
        (try simp only [Act.put, List.getElem_toArray, List.getElem_cons_succ, List.getElem_cons_zero, List.setIfInBounds_toArray, List.set_cons_zero, List.set_cons_succ])
        refine wpAnyH_take (i := 5) (v := .agg (eA a)) rfl ?qa5b ?qa5c ?qa5d (fun _ _ _ h => h) ?qa5e s0 ?qa5f
        case qa5b => kernel_rfl
        case qa5c => kernel_rfl
        case qa5d => kernel_rfl
        case qa5e => exact yields_row (by kernel_rfl) 30 (.tmp 3) rfl g3 rfl 30 (eA a) (0, 0) _ (fun w' h => (HSx.out w' h).1) Tryz.underlying30 rfl (infoE HA.out)
        (try simp only [Act.put, List.getElem_toArray, List.getElem_cons_succ, List.getElem_cons_zero, List.setIfInBounds_toArray, List.set_cons_zero, List.set_cons_succ])
        refine held_step (i := 6) (by kernel_rfl) rfl (by kernel_rfl) (fun K hK => ?_)
        go_wp2_with (go_at_call 28; refine (ref05_Has e.p HOE.out HNE.out a HA.out w5).mono ?_; rintro r w6 ⟨rfl, hb⟩; rw [HHV.out]; have s1 := HSt.out _ _ s0 hb; clear hb)
        refine hK.out _ _ s1 ?_
        clear hK K
        (try simp only [Act.put, List.getElem_toArray, List.getElem_cons_succ, List.getElem_cons_zero, List.setIfInBounds_toArray, List.set_cons_zero, List.set_cons_succ])
        refine wpAnyH_take (i := 7) (v := .bool false) rfl (by kernel_rfl) (by kernel_rfl) (by kernel_rfl) (fun _ _ _ h => h) (Or.inl ⟨by kernel_rfl, fun w' h => by first | (go_simp; done) | (go_simp; rfl)⟩) s1 ?_
        (try simp only [Act.put, List.getElem_toArray, List.getElem_cons_succ, List.getElem_cons_zero, List.setIfInBounds_toArray, List.set_cons_zero, List.set_cons_succ])
        refine wpAnyH_done (by kernel_rfl) ?_ _
        have HX6 := Aside0.mk (HSx.out _ s1).1
        have HB6 := Aside0.mk (HSx.out _ s1).2.2
        have HR6 := Aside0.mk (HSx.out _ s1).2.1
        have HY6 := Aside0.mk (blk_below HY.out HB6.out)
        clear s0 s1
        go_wp2
        (try go_quiet (fail))
        (try go_wp2)
        go_roundw
        case rel => exact ⟨i + 1, _, rfl, (by first | rfl | exact congrArg (Value.int .i64) HE4.out), ⟨HLT.out⟩, ⟨by rw [HBN.out]; exact HBE.out⟩, ⟨blk_later HX6.out, blk_later HY6.out, bel_later (below_step HB.out HB6.out)⟩⟩
        case measure => exact measureA n i _ (by first | rfl | exact HE4.out) HLT.out
      · have HHV := Aside0.mk hhv
        clear hhv
        rcases HBE.out with h | ⟨j, e2, rfl, hj, he2, hbe⟩
        · obtain ⟨rfl, hbe⟩ := h
          have HBN := Aside0.mk (best_yes HEE.out (show (hasB e.p a && longer (bestE l a i) e) = true by rw [HHV.out, hbe]; rfl))
          clear hbe
          go_wp2
          obtain ⟨S, hS⟩ : ∃ S : World → Prop, S = fun w' => w'.heap[g3]? = some (.cells (eA a) 30 (0, 0)) ∧ w'.rangeAt G (i * 19) (lE e) ∧ Below wr.heap.size wr w' := ⟨_, rfl⟩
          have HSx := Aside0.mk (show ∀ x : World, S x → x.heap[g3]? = some (.cells (eA a) 30 (0, 0)) ∧ x.rangeAt G (i * 19) (lE e) ∧ Below wr.heap.size wr x by intro b h; rw [hS] at h; exact h)
          have HSt := Aside0.mk (show ∀ a b : World, S a → Below a.heap.size a b → S b by
            intro a b h hb
            rw [hS] at h ⊢
            exact ⟨blk_below h.1 hb, range_below h.2.1 hb, below_step h.2.2 hb⟩)
          have s0 : S wr.drew := by rw [hS]; exact ⟨blk_later HX.out, range_below HR.out (bel_later (Below.refl _ _)), bel_later (Below.refl _ _)⟩
          clear hS
          refine wp_region_held_drew (S := S) (by kernel_rfl) s0 (fun _ => ?_)
          refine anyH_world s0 (fun w5 s5 => ?_)
          clear s0
          have s0 := s5
          clear s5
          refine wpAnyH_take (i := 0) (v := .slice A n cap) rfl (by kernel_rfl) (by kernel_rfl) (by kernel_rfl) (fun _ _ _ h => h) (Or.inl ⟨by kernel_rfl, fun w' h => by first | (go_simp; done) | (go_simp; rfl)⟩) s0 ?_
          (try simp only [Act.put, List.getElem_toArray, List.getElem_cons_succ, List.getElem_cons_zero, List.setIfInBounds_toArray, List.set_cons_zero, List.set_cons_succ])
          refine wpAnyH_take (i := 1) (v := .int .i64 (i : Int)) rfl (by kernel_rfl) (by kernel_rfl) (by kernel_rfl) (fun _ _ _ h => h) (Or.inl ⟨by kernel_rfl, fun w' h => by first | (go_simp; done) | (go_simp; rfl)⟩) s0 ?_
          (try simp only [Act.put, List.getElem_toArray, List.getElem_cons_succ, List.getElem_cons_zero, List.setIfInBounds_toArray, List.set_cons_zero, List.set_cons_succ])
          refine wpAnyH_take (i := 2) (v := .pointer (some ⟨G, i * 19, none⟩)) rfl (by kernel_rfl) (by kernel_rfl) (by kernel_rfl) (fun _ _ _ h => h) (Or.inl ⟨by kernel_rfl, fun w' h => by have hf := hidx w'; first | (go_simp; done) | (go_simp; rfl)⟩) s0 ?_
          (try simp only [Act.put, List.getElem_toArray, List.getElem_cons_succ, List.getElem_cons_zero, List.setIfInBounds_toArray, List.set_cons_zero, List.set_cons_succ])
          refine wpAnyH_take (i := 3) (v := .pointer (some ⟨G, i * 19, none⟩)) rfl (by kernel_rfl) (by kernel_rfl) (by kernel_rfl) (fun _ _ _ h => h) (Or.inl ⟨by kernel_rfl, fun w' h => by first | (go_simp; done) | (go_simp; rfl)⟩) s0 ?_
          (try simp only [Act.put, List.getElem_toArray, List.getElem_cons_succ, List.getElem_cons_zero, List.setIfInBounds_toArray, List.set_cons_zero, List.set_cons_succ])
          refine wpAnyH_take (i := 4) (v := .agg (lP e.p).toArray) rfl ?mb4b ?mb4c ?mb4d (fun _ _ _ h => h) ?mb4e s0 ?mb4f
          case mb4b => kernel_rfl
          case mb4c => kernel_rfl
          case mb4d => kernel_rfl
          case mb4e =>
            refine yieldsIf_load_mid ?mb4g 42 (.tmp 18) ?mb4h G (i * 19) ?mb4i (lP e.p) _ ?mb4j Tryz.underlying42 ?mb4k (infoEP HOE.out)
            case mb4g => kernel_rfl
            case mb4h => kernel_rfl
            case mb4i => kernel_rfl
            case mb4k => kernel_rfl
            case mb4j => exact fun w' h => part_pf (HSx.out w' h).2.1
          (try simp only [Act.put, List.getElem_toArray, List.getElem_cons_succ, List.getElem_cons_zero, List.setIfInBounds_toArray, List.set_cons_zero, List.set_cons_succ])
          refine wpAnyH_take (i := 5) (v := .agg (eA a)) rfl ?qb5b ?qb5c ?qb5d (fun _ _ _ h => h) ?qb5e s0 ?qb5f
          case qb5b => kernel_rfl
          case qb5c => kernel_rfl
          case qb5d => kernel_rfl
          case qb5e => exact yields_row (by kernel_rfl) 30 (.tmp 3) rfl g3 rfl 30 (eA a) (0, 0) _ (fun w' h => (HSx.out w' h).1) Tryz.underlying30 rfl (infoE HA.out)
          (try simp only [Act.put, List.getElem_toArray, List.getElem_cons_succ, List.getElem_cons_zero, List.setIfInBounds_toArray, List.set_cons_zero, List.set_cons_succ])
          refine held_step (i := 6) (by kernel_rfl) rfl (by kernel_rfl) (fun K hK => ?_)
          go_wp2_with (go_at_call 28; refine (ref05_Has e.p HOE.out HNE.out a HA.out w5).mono ?_; rintro r w6 ⟨rfl, hb⟩; rw [HHV.out]; have s1 := HSt.out _ _ s0 hb; clear hb)
          refine hK.out _ _ s1 ?_
          clear hK K
          (try simp only [Act.put, List.getElem_toArray, List.getElem_cons_succ, List.getElem_cons_zero, List.setIfInBounds_toArray, List.set_cons_zero, List.set_cons_succ])
          refine wpAnyH_take (i := 7) (v := .bool true) rfl (by kernel_rfl) (by kernel_rfl) (by kernel_rfl) (fun _ _ _ h => h) (Or.inl ⟨by kernel_rfl, fun w' h => by first | (go_simp; done) | (go_simp; rfl)⟩) s1 ?_
          (try simp only [Act.put, List.getElem_toArray, List.getElem_cons_succ, List.getElem_cons_zero, List.setIfInBounds_toArray, List.set_cons_zero, List.set_cons_succ])
          refine wpAnyH_done (by kernel_rfl) ?_ _
          have HX6 := Aside0.mk (HSx.out _ s1).1
          have HB6 := Aside0.mk (HSx.out _ s1).2.2
          have HR6 := Aside0.mk (HSx.out _ s1).2.1
          have HY6 := Aside0.mk (blk_below HY.out HB6.out)
          clear s0 s1
          go_wp2
          (try go_quiet (fail))
          (try go_wp2)
          go_roundw
          case rel => exact ⟨i + 1, _, rfl, (by first | rfl | exact congrArg (Value.int .i64) HE4.out), ⟨HLT.out⟩, ⟨.inr ⟨i, e, rfl, HLT.out, HEE.out, HBN.out⟩⟩, ⟨blk_later HX6.out, blk_later HY6.out, bel_later (below_step HB.out HB6.out)⟩⟩
          case measure => exact measureA n i _ (by first | rfl | exact HE4.out) HLT.out
        · have HE2 := Aside0.mk he2
          have HB2 := Aside0.mk hbe
          have HJL := Aside0.mk hj
          have HO2 := Aside0.mk (HL.out e2 (List.mem_of_getElem? he2))
          have hidj := fun w => HRD.out.idx w j hj
          have c3 : decide ((j : Int) < 0) = false := decide_eq_false (by omega)
          clear he2 hbe hj
          by_cases hd : e2.p.n < e.p.n
          · have HBN := Aside0.mk (best_yes HEE.out (show (hasB e.p a && longer (bestE l a i) e) = true by rw [HHV.out, HB2.out]; exact decide_eq_true hd))
            have c2 : decide (e2.p.n < e.p.n) = true := decide_eq_true hd
            clear hd
            go_wp2
            obtain ⟨S, hS⟩ : ∃ S : World → Prop, S = fun w' => w'.heap[g3]? = some (.cells (eA a) 30 (0, 0)) ∧ w'.rangeAt G (i * 19) (lE e) ∧ Below wr.heap.size wr w' := ⟨_, rfl⟩
            have HSx := Aside0.mk (show ∀ x : World, S x → x.heap[g3]? = some (.cells (eA a) 30 (0, 0)) ∧ x.rangeAt G (i * 19) (lE e) ∧ Below wr.heap.size wr x by intro b h; rw [hS] at h; exact h)
            have HSt := Aside0.mk (show ∀ a b : World, S a → Below a.heap.size a b → S b by
              intro a b h hb
              rw [hS] at h ⊢
              exact ⟨blk_below h.1 hb, range_below h.2.1 hb, below_step h.2.2 hb⟩)
            have s0 : S wr.drew := by rw [hS]; exact ⟨blk_later HX.out, range_below HR.out (bel_later (Below.refl _ _)), bel_later (Below.refl _ _)⟩
            clear hS
            refine wp_region_held_drew (S := S) (by kernel_rfl) s0 (fun _ => ?_)
            refine anyH_world s0 (fun w5 s5 => ?_)
            clear s0
            have s0 := s5
            clear s5
            refine wpAnyH_take (i := 0) (v := .slice A n cap) rfl (by kernel_rfl) (by kernel_rfl) (by kernel_rfl) (fun _ _ _ h => h) (Or.inl ⟨by kernel_rfl, fun w' h => by first | (go_simp; done) | (go_simp; rfl)⟩) s0 ?_
            (try simp only [Act.put, List.getElem_toArray, List.getElem_cons_succ, List.getElem_cons_zero, List.setIfInBounds_toArray, List.set_cons_zero, List.set_cons_succ])
            refine wpAnyH_take (i := 1) (v := .int .i64 (i : Int)) rfl (by kernel_rfl) (by kernel_rfl) (by kernel_rfl) (fun _ _ _ h => h) (Or.inl ⟨by kernel_rfl, fun w' h => by first | (go_simp; done) | (go_simp; rfl)⟩) s0 ?_
            (try simp only [Act.put, List.getElem_toArray, List.getElem_cons_succ, List.getElem_cons_zero, List.setIfInBounds_toArray, List.set_cons_zero, List.set_cons_succ])
            refine wpAnyH_take (i := 2) (v := .pointer (some ⟨G, i * 19, none⟩)) rfl (by kernel_rfl) (by kernel_rfl) (by kernel_rfl) (fun _ _ _ h => h) (Or.inl ⟨by kernel_rfl, fun w' h => by have hf := hidx w'; first | (go_simp; done) | (go_simp; rfl)⟩) s0 ?_
            (try simp only [Act.put, List.getElem_toArray, List.getElem_cons_succ, List.getElem_cons_zero, List.setIfInBounds_toArray, List.set_cons_zero, List.set_cons_succ])
            refine wpAnyH_take (i := 3) (v := .pointer (some ⟨G, i * 19, none⟩)) rfl (by kernel_rfl) (by kernel_rfl) (by kernel_rfl) (fun _ _ _ h => h) (Or.inl ⟨by kernel_rfl, fun w' h => by first | (go_simp; done) | (go_simp; rfl)⟩) s0 ?_
            (try simp only [Act.put, List.getElem_toArray, List.getElem_cons_succ, List.getElem_cons_zero, List.setIfInBounds_toArray, List.set_cons_zero, List.set_cons_succ])
            refine wpAnyH_take (i := 4) (v := .agg (lP e.p).toArray) rfl ?mc4b ?mc4c ?mc4d (fun _ _ _ h => h) ?mc4e s0 ?mc4f
            case mc4b => kernel_rfl
            case mc4c => kernel_rfl
            case mc4d => kernel_rfl
            case mc4e =>
              refine yieldsIf_load_mid ?mc4g 42 (.tmp 18) ?mc4h G (i * 19) ?mc4i (lP e.p) _ ?mc4j Tryz.underlying42 ?mc4k (infoEP HOE.out)
              case mc4g => kernel_rfl
              case mc4h => kernel_rfl
              case mc4i => kernel_rfl
              case mc4k => kernel_rfl
              case mc4j => exact fun w' h => part_pf (HSx.out w' h).2.1
            (try simp only [Act.put, List.getElem_toArray, List.getElem_cons_succ, List.getElem_cons_zero, List.setIfInBounds_toArray, List.set_cons_zero, List.set_cons_succ])
            refine wpAnyH_take (i := 5) (v := .agg (eA a)) rfl ?qc5b ?qc5c ?qc5d (fun _ _ _ h => h) ?qc5e s0 ?qc5f
            case qc5b => kernel_rfl
            case qc5c => kernel_rfl
            case qc5d => kernel_rfl
            case qc5e => exact yields_row (by kernel_rfl) 30 (.tmp 3) rfl g3 rfl 30 (eA a) (0, 0) _ (fun w' h => (HSx.out w' h).1) Tryz.underlying30 rfl (infoE HA.out)
            (try simp only [Act.put, List.getElem_toArray, List.getElem_cons_succ, List.getElem_cons_zero, List.setIfInBounds_toArray, List.set_cons_zero, List.set_cons_succ])
            refine held_step (i := 6) (by kernel_rfl) rfl (by kernel_rfl) (fun K hK => ?_)
            go_wp2_with (go_at_call 28; refine (ref05_Has e.p HOE.out HNE.out a HA.out w5).mono ?_; rintro r w6 ⟨rfl, hb⟩; rw [HHV.out]; have s1 := HSt.out _ _ s0 hb; clear hb)
            refine hK.out _ _ s1 ?_
            clear hK K
            (try simp only [Act.put, List.getElem_toArray, List.getElem_cons_succ, List.getElem_cons_zero, List.setIfInBounds_toArray, List.set_cons_zero, List.set_cons_succ])
            refine wpAnyH_take (i := 7) (v := .bool true) rfl (by kernel_rfl) (by kernel_rfl) (by kernel_rfl) (fun _ _ _ h => h) (Or.inl ⟨by kernel_rfl, fun w' h => by first | (go_simp; done) | (go_simp; rfl)⟩) s1 ?_
            (try simp only [Act.put, List.getElem_toArray, List.getElem_cons_succ, List.getElem_cons_zero, List.setIfInBounds_toArray, List.set_cons_zero, List.set_cons_succ])
            refine wpAnyH_done (by kernel_rfl) ?_ _
            have HX6 := Aside0.mk (HSx.out _ s1).1
            have HB6 := Aside0.mk (HSx.out _ s1).2.2
            have HR6 := Aside0.mk (HSx.out _ s1).2.1
            have HY6 := Aside0.mk (blk_below HY.out HB6.out)
            clear s0 s1
            have hn1 := part_n HOE.out HR6.out
            have hn2 := part_n HO2.out ((rd_below HRD.out (below_step HB.out HB6.out)).at_ j e2 HE2.out)
            go_wp2
            (try go_quiet (fail))
            (try go_wp2)
            go_roundw
            case rel => exact ⟨i + 1, _, rfl, (by first | rfl | exact congrArg (Value.int .i64) HE4.out), ⟨HLT.out⟩, ⟨.inr ⟨i, e, rfl, HLT.out, HEE.out, HBN.out⟩⟩, ⟨blk_later HX6.out, blk_later HY6.out, bel_later (below_step HB.out HB6.out)⟩⟩
            case measure => exact measureA n i _ (by first | rfl | exact HE4.out) HLT.out
          · have HBN := Aside0.mk (best_no HEE.out (show (hasB e.p a && longer (bestE l a i) e) = false by rw [HHV.out, HB2.out]; exact decide_eq_false hd))
            have c2 : decide (e2.p.n < e.p.n) = false := decide_eq_false hd
            clear hd
            go_wp2
            obtain ⟨S, hS⟩ : ∃ S : World → Prop, S = fun w' => w'.heap[g3]? = some (.cells (eA a) 30 (0, 0)) ∧ w'.rangeAt G (i * 19) (lE e) ∧ Below wr.heap.size wr w' := ⟨_, rfl⟩
            have HSx := Aside0.mk (show ∀ x : World, S x → x.heap[g3]? = some (.cells (eA a) 30 (0, 0)) ∧ x.rangeAt G (i * 19) (lE e) ∧ Below wr.heap.size wr x by intro b h; rw [hS] at h; exact h)
            have HSt := Aside0.mk (show ∀ a b : World, S a → Below a.heap.size a b → S b by
              intro a b h hb
              rw [hS] at h ⊢
              exact ⟨blk_below h.1 hb, range_below h.2.1 hb, below_step h.2.2 hb⟩)
            have s0 : S wr.drew := by rw [hS]; exact ⟨blk_later HX.out, range_below HR.out (bel_later (Below.refl _ _)), bel_later (Below.refl _ _)⟩
            clear hS
            refine wp_region_held_drew (S := S) (by kernel_rfl) s0 (fun _ => ?_)
            refine anyH_world s0 (fun w5 s5 => ?_)
            clear s0
            have s0 := s5
            clear s5
            refine wpAnyH_take (i := 0) (v := .slice A n cap) rfl (by kernel_rfl) (by kernel_rfl) (by kernel_rfl) (fun _ _ _ h => h) (Or.inl ⟨by kernel_rfl, fun w' h => by first | (go_simp; done) | (go_simp; rfl)⟩) s0 ?_
            (try simp only [Act.put, List.getElem_toArray, List.getElem_cons_succ, List.getElem_cons_zero, List.setIfInBounds_toArray, List.set_cons_zero, List.set_cons_succ])
            refine wpAnyH_take (i := 1) (v := .int .i64 (i : Int)) rfl (by kernel_rfl) (by kernel_rfl) (by kernel_rfl) (fun _ _ _ h => h) (Or.inl ⟨by kernel_rfl, fun w' h => by first | (go_simp; done) | (go_simp; rfl)⟩) s0 ?_
            (try simp only [Act.put, List.getElem_toArray, List.getElem_cons_succ, List.getElem_cons_zero, List.setIfInBounds_toArray, List.set_cons_zero, List.set_cons_succ])
            refine wpAnyH_take (i := 2) (v := .pointer (some ⟨G, i * 19, none⟩)) rfl (by kernel_rfl) (by kernel_rfl) (by kernel_rfl) (fun _ _ _ h => h) (Or.inl ⟨by kernel_rfl, fun w' h => by have hf := hidx w'; first | (go_simp; done) | (go_simp; rfl)⟩) s0 ?_
            (try simp only [Act.put, List.getElem_toArray, List.getElem_cons_succ, List.getElem_cons_zero, List.setIfInBounds_toArray, List.set_cons_zero, List.set_cons_succ])
            refine wpAnyH_take (i := 3) (v := .pointer (some ⟨G, i * 19, none⟩)) rfl (by kernel_rfl) (by kernel_rfl) (by kernel_rfl) (fun _ _ _ h => h) (Or.inl ⟨by kernel_rfl, fun w' h => by first | (go_simp; done) | (go_simp; rfl)⟩) s0 ?_
            (try simp only [Act.put, List.getElem_toArray, List.getElem_cons_succ, List.getElem_cons_zero, List.setIfInBounds_toArray, List.set_cons_zero, List.set_cons_succ])
            refine wpAnyH_take (i := 4) (v := .agg (lP e.p).toArray) rfl ?md4b ?md4c ?md4d (fun _ _ _ h => h) ?md4e s0 ?md4f
            case md4b => kernel_rfl
            case md4c => kernel_rfl
            case md4d => kernel_rfl
            case md4e =>
              refine yieldsIf_load_mid ?md4g 42 (.tmp 18) ?md4h G (i * 19) ?md4i (lP e.p) _ ?md4j Tryz.underlying42 ?md4k (infoEP HOE.out)
              case md4g => kernel_rfl
              case md4h => kernel_rfl
              case md4i => kernel_rfl
              case md4k => kernel_rfl
              case md4j => exact fun w' h => part_pf (HSx.out w' h).2.1
            (try simp only [Act.put, List.getElem_toArray, List.getElem_cons_succ, List.getElem_cons_zero, List.setIfInBounds_toArray, List.set_cons_zero, List.set_cons_succ])
            refine wpAnyH_take (i := 5) (v := .agg (eA a)) rfl ?qd5b ?qd5c ?qd5d (fun _ _ _ h => h) ?qd5e s0 ?qd5f
            case qd5b => kernel_rfl
            case qd5c => kernel_rfl
            case qd5d => kernel_rfl
            case qd5e => exact yields_row (by kernel_rfl) 30 (.tmp 3) rfl g3 rfl 30 (eA a) (0, 0) _ (fun w' h => (HSx.out w' h).1) Tryz.underlying30 rfl (infoE HA.out)
            (try simp only [Act.put, List.getElem_toArray, List.getElem_cons_succ, List.getElem_cons_zero, List.setIfInBounds_toArray, List.set_cons_zero, List.set_cons_succ])
            refine held_step (i := 6) (by kernel_rfl) rfl (by kernel_rfl) (fun K hK => ?_)
            go_wp2_with (go_at_call 28; refine (ref05_Has e.p HOE.out HNE.out a HA.out w5).mono ?_; rintro r w6 ⟨rfl, hb⟩; rw [HHV.out]; have s1 := HSt.out _ _ s0 hb; clear hb)
            refine hK.out _ _ s1 ?_
            clear hK K
            (try simp only [Act.put, List.getElem_toArray, List.getElem_cons_succ, List.getElem_cons_zero, List.setIfInBounds_toArray, List.set_cons_zero, List.set_cons_succ])
            refine wpAnyH_take (i := 7) (v := .bool true) rfl (by kernel_rfl) (by kernel_rfl) (by kernel_rfl) (fun _ _ _ h => h) (Or.inl ⟨by kernel_rfl, fun w' h => by first | (go_simp; done) | (go_simp; rfl)⟩) s1 ?_
            (try simp only [Act.put, List.getElem_toArray, List.getElem_cons_succ, List.getElem_cons_zero, List.setIfInBounds_toArray, List.set_cons_zero, List.set_cons_succ])
            refine wpAnyH_done (by kernel_rfl) ?_ _
            have HX6 := Aside0.mk (HSx.out _ s1).1
            have HB6 := Aside0.mk (HSx.out _ s1).2.2
            have HR6 := Aside0.mk (HSx.out _ s1).2.1
            have HY6 := Aside0.mk (blk_below HY.out HB6.out)
            clear s0 s1
            have hn1 := part_n HOE.out HR6.out
            have hn2 := part_n HO2.out ((rd_below HRD.out (below_step HB.out HB6.out)).at_ j e2 HE2.out)
            go_wp2
            (try go_quiet (fail))
            (try go_wp2)
            go_roundw
            case rel => exact ⟨i + 1, _, rfl, (by first | rfl | exact congrArg (Value.int .i64) HE4.out), ⟨HLT.out⟩, ⟨by rw [HBN.out]; exact .inr ⟨j, e2, rfl, HJL.out, HE2.out, HB2.out⟩⟩, ⟨blk_later HX6.out, blk_later HY6.out, bel_later (below_step HB.out HB6.out)⟩⟩
            case measure => exact measureA n i _ (by first | rfl | exact HE4.out) HLT.out
    · have c0 : decide ((i : Int) < (n : Int)) = false := decide_eq_false (by omega)
      have c1 : decide (i < n) = false := decide_eq_false hlt
      obtain rfl : i = n := by have := HI.out; omega
      clear hlt
      rcases HBE.out with ⟨rfl, hbe⟩ | ⟨j, e2, rfl, hj, he2, hbe⟩
      · have HB2 := Aside0.mk hbe
        clear hbe
        go_wp2_with (first
          | ((with_reducible refine gate_store (t := 52) (p := 4) rfl ?_); refine wpList_store_row rfl 52 (.tmp 4) (.tmp 45) rfl g4 (eE noE) rfl rfl 52 (eE noE) HY.out (infoEr6 ok_noE) rfl (eE_one _) ?_; have HY7 := Aside0.mk (row_new (cells := eE noE) HY.out); have HB7 := Aside0.mk (below_row HB.out HG4.out (eE noE)); generalize wr.setRow g4 (eE noE) = w7 at HY7 HB7 ⊢))
        refine bodyPost_ret (results_cell_tmp rfl _ _ g4 52 (eE noE) (0, 0) _ rfl HY7.out Tryz.underlying52 rfl (infoEr6 ok_noE)) rfl ?_
        exact ⟨by rw [HB2.out]; rfl, HB7.out⟩
      · have HE2 := Aside0.mk he2
        have HB2 := Aside0.mk hbe
        have HO2 := Aside0.mk (HL.out e2 (List.mem_of_getElem? he2))
        have hidj := fun w => HRD.out.idx w j hj
        have c3 : decide ((j : Int) < 0) = false := decide_eq_false (by omega)
        clear he2 hbe hj
        go_wp2_with (first
          | ((with_reducible refine gate_dst (N := 49) rfl ?_); refine wpList_load_mid rfl 52 (.tmp 48) rfl G (j * 19) rfl (lE e2) _ ((rd_below HRD.out HB.out).at_ j e2 HE2.out) Tryz.underlying52 rfl (infoEr6 HO2.out) ?_)
          | ((with_reducible refine gate_store (t := 52) (p := 4) rfl ?_); refine wpList_store_row rfl 52 (.tmp 4) (.tmp 49) rfl g4 (eE e2) rfl rfl 52 (eE noE) HY.out (infoEr6 HO2.out) ((eE_size ok_noE).trans (eE_size HO2.out).symm) (eE_one _) ?_; have HY7 := Aside0.mk (row_new (cells := eE e2) HY.out); have HB7 := Aside0.mk (below_row HB.out HG4.out (eE e2)); generalize wr.setRow g4 (eE e2) = w7 at HY7 HB7 ⊢))
        refine bodyPost_ret (results_cell_tmp rfl _ _ g4 52 (eE e2) (0, 0) _ rfl HY7.out Tryz.underlying52 rfl (infoEr6 HO2.out)) rfl ?_
        exact ⟨by rw [HB2.out]; rfl, HB7.out⟩
theorem clr_tab : ((List.range 256).all fun b => (List.range 8).all fun k => (List.range 8).all fun j => bit8 (clrB (b : Int) k).toNat j == if j = k then 0 else bit8 b j) = true := by kernel_rfl
theorem clr_bit {b : Int} (hb : 0 ≤ b ∧ b ≤ 255) {k j : Nat} (hk : k < 8) (hj : j < 8) : bit8 (clrB b k).toNat j = if j = k then 0 else bit8 b.toNat j := by
  have h1 := List.all_eq_true.1 clr_tab b.toNat (List.mem_range.2 (by omega))
  have h2 := List.all_eq_true.1 h1 k (List.mem_range.2 hk)
  have h3 := List.all_eq_true.1 h2 j (List.mem_range.2 hj)
  rw [beq_iff_eq, Int.toNat_of_nonneg hb.1] at h3
  exact h3
theorem byte_ext {x y : Nat} (hx : x ≤ 255) (hy : y ≤ 255) (h : ∀ k, k < 8 → bit8 x k = bit8 y k) : x = y := by
  have h0 := h 0 (by decide); have h1 := h 1 (by decide); have h2 := h 2 (by decide); have h3 := h 3 (by decide)
  have h4 := h 4 (by decide); have h5 := h 5 (by decide); have h6 := h 6 (by decide); have h7 := h 7 (by decide)
  unfold bit8 at h0 h1 h2 h3 h4 h5 h6 h7
  simp only [Nat.reduceSub, Nat.reducePow, Nat.div_one] at h0 h1 h2 h3 h4 h5 h6 h7
  omega
/-- A bit of the bytes, whatever the family. -/
def bitB (l : List Int) (j : Nat) : Nat := bit8 (byt l (j / 8)).toNat (j % 8)
theorem bitA_of {a : Ad} {j : Nat} (h : (j : Int) < bitsOf a.fam) : bitA a j = (bitB a.bs j : Int) := by
  unfold bitA bitB
  rw [if_neg (by omega), if_neg (by omega), Int.toNat_natCast]
theorem byt_set (l : List Int) (i : Nat) (v : Int) (j : Nat) (hi : i < l.length) : byt (l.set i v) j = if j = i then v else byt l j := by
  unfold byt
  rw [List.getD_eq_getElem?_getD, List.getElem?_set]
  by_cases h : i = j
  · subst h
    rw [if_pos rfl, if_pos rfl, if_pos hi]
    rfl
  · rw [if_neg h, if_neg (fun e => h e.symm), List.getD_eq_getElem?_getD]
theorem bits_ext {x y : Ad} (hx : x.ok) (hy : y.ok) (hf : x.fam = y.fam) (h : ∀ j, j < 128 → bitB x.bs j = bitB y.bs j) : x = y := by
  have e : x.bs = y.bs := bytes_ext hx.1 hy.1 (fun i hi => by
    have h1 := byt_range hx i
    have h2 := byt_range hy i
    have := byte_ext (x := (byt x.bs i).toNat) (y := (byt y.bs i).toNat) (by omega) (by omega) (fun k hk => by
      have := h (i * 8 + k) (by omega)
      unfold bitB at this
      rw [show (i * 8 + k) / 8 = i by omega, show (i * 8 + k) % 8 = k by omega] at this
      exact this)
    omega)
  cases x
  cases y
  cases hf
  cases e
  rfl
/-- What fill leaves of the bits. -/
theorem fill_bits (a : Ad) (ha : a.ok) (n : Int) : ∀ (m : Nat), m ≤ 128 → ∀ j, j < 128 → bitB (fillL a n m) j = if n ≤ (j : Int) ∧ j < m then 0 else bitB a.bs j
  | 0, _, j, _ => by rw [if_neg (by omega)]; rfl
  | m + 1, hm, j, hj => by
    have ih := fill_bits a ha n m (by omega)
    have hok := ok_fillL a ha n m
    by_cases hn : n ≤ (m : Int)
    · rw [fill_step1 a n m hn]
      unfold bitB
      rw [byt_set _ _ _ _ (by have : (fillL a n m).length = 16 := hok.1; omega)]
      by_cases hd : j / 8 = m / 8
      · rw [if_pos hd, clr_bit (byt_range hok _) (Nat.mod_lt _ (by decide)) (Nat.mod_lt _ (by decide))]
        by_cases hjm : j = m
        · subst hjm
          rw [if_pos rfl, if_pos ⟨hn, Nat.lt_succ_self _⟩]
        · rw [if_neg (by omega)]
          have := ih j hj
          unfold bitB at this
          rw [← hd, this]
          by_cases hc : n ≤ (j : Int) ∧ j < m
          · rw [if_pos hc, if_pos ⟨hc.1, by omega⟩]
          · rw [if_neg hc, if_neg (by omega)]
      · rw [if_neg hd]
        have := ih j hj
        unfold bitB at this
        rw [this]
        have hjm : j ≠ m := fun e => hd (by rw [e])
        by_cases hc : n ≤ (j : Int) ∧ j < m
        · rw [if_pos hc, if_pos ⟨hc.1, by omega⟩]
        · rw [if_neg hc, if_neg (by omega)]
    · rw [fill_step2 a n m hn, ih j hj]
      by_cases hc : n ≤ (j : Int) ∧ j < m
      · rw [if_pos hc, if_pos ⟨hc.1, by omega⟩]
      · rw [if_neg hc, if_neg (by omega)]
theorem fillA_bits (a : Ad) (ha : a.ok) (n : Int) (j : Nat) (hj : j < 128) : bitB (fillA a n).bs j = if n ≤ (j : Int) ∧ (j : Int) < bitsOf a.fam then 0 else bitB a.bs j := by
  have hb := bitsOf_le a.fam
  have := fill_bits a ha n (bitsOf a.fam).toNat (by omega) j hj
  unfold fillA
  rw [this]
  by_cases hc : n ≤ (j : Int) ∧ (j : Int) < bitsOf a.fam
  · rw [if_pos hc, if_pos (by omega)]
  · rw [if_neg hc, if_neg (by omega)]
theorem fill_same {a : Ad} (ha : a.ok) (n : Int) : a = fillA a n ↔ ∀ j : Nat, n ≤ (j : Int) → (j : Int) < bitsOf a.fam → bitA a j = 0 := by
  have hb := bitsOf_le a.fam
  constructor
  · intro e j h1 h2
    have := fillA_bits a ha n j (by omega)
    rw [← e, if_pos ⟨h1, h2⟩] at this
    rw [bitA_of h2, this]
    rfl
  · intro h
    refine bits_ext ha (ok_fillA a ha n) rfl (fun j hj => ?_)
    rw [fillA_bits a ha n j hj]
    split
    · rename_i hc
      have := h j hc.1 hc.2
      rw [bitA_of hc.2] at this
      omega
    · rfl
theorem maskN_same (a : Ad) (n : Int) : n = maskN a n ↔ 0 ≤ n ∧ n ≤ bitsOf a.fam := by
  have hb := bitsOf_le a.fam
  unfold maskN
  split
  · split <;> omega
  · split <;> omega
theorem pf_ext {p q : Pf} (h1 : p.a = q.a) (h2 : p.n = q.n) : p = q := by cases p; cases q; cases h1; cases h2; rfl
/-- The program's own check of a prefix is the document's. -/
theorem may_same {p : Pf} (hp : p.a.ok) : mayQ p = mayP p := by
  rw [Bool.eq_iff_iff, mayP_iff]
  unfold mayQ mayPP
  rw [Bool.and_eq_true, Bool.and_eq_true, decide_eq_true_eq, bne_iff_ne]
  constructor
  · rintro ⟨⟨h1, h2⟩, h3⟩
    have hn : p.n = maskN p.a p.n := congrArg Pf.n h3
    have h4 := (maskN_same p.a p.n).1 hn
    have ha : p.a = fillA p.a p.n := by
      conv => lhs; rw [h3]
      unfold maskQ
      rw [← hn]
    exact ⟨h1, h2, h4.1, h4.2, (fill_same hp p.n).1 ha⟩
  · rintro ⟨h1, h2, h3, h4, h5⟩
    have hn := (maskN_same p.a p.n).2 ⟨h3, h4⟩
    refine ⟨⟨h1, h2⟩, pf_ext ?_ hn⟩
    unfold maskQ
    rw [← hn]
    exact (fill_same hp p.n).2 h5
theorem mayA_bits {a : Ad} (ha : a.ok) (h : mayA a = true) (h0 : a.fam ≠ 0) {j : Nat} (hj : j < 128) (hb : bitsOf a.fam ≤ (j : Int)) : bitB a.bs j = 0 := by
  unfold mayA at h
  rw [Bool.and_eq_true, zerB_iff] at h
  obtain ⟨h1, h2⟩ := h
  have hf : a.fam = 4 ∨ a.fam = 6 := by
    unfold famB at h2
    rw [Bool.or_eq_true, Bool.or_eq_true, beq_iff_eq, beq_iff_eq, beq_iff_eq] at h2
    omega
  rcases hf with hf | hf
  · rw [hf] at h1 hb
    have hj8 : 4 ≤ j / 8 := by
      have : (32 : Int) ≤ (j : Int) := hb
      omega
    have := h1 (j / 8) hj8 (by show j / 8 < 4 + (16 - 4); omega)
    unfold bitB
    rw [this]
    show bit8 0 _ = 0
    unfold bit8
    rw [Nat.zero_div]
  · rw [hf] at hb
    have : (128 : Int) ≤ (j : Int) := hb
    omega
theorem mayP_facts {p : Pf} (h : mayP p = true) : mayA p.a = true ∧ p.a.fam ≠ 0 ∧ 0 ≤ p.n ∧ p.n ≤ bitsOf p.a.fam ∧ ∀ j : Nat, p.n ≤ (j : Int) → (j : Int) < bitsOf p.a.fam → bitA p.a j = 0 := (mayP_iff p).1 h
/-- A prefix that may be has an address, that may be, if it is that address, masked. -/
theorem has_mask {p : Pf} (hp : p.a.ok) (hm : mayP p = true) {a : Ad} (ha : a.ok) (hma : mayA a = true) (h0 : a.fam ≠ 0) : hasB p a = true ↔ 0 ≤ p.n ∧ p.n ≤ bitsOf a.fam ∧ p = maskQ a p.n := by
  obtain ⟨m1, m2, m3, m4, m5⟩ := mayP_facts hm
  rw [hasB_iff]
  unfold hasP
  have hb := bitsOf_le a.fam
  constructor
  · rintro ⟨h1, h2⟩
    have hle : p.n ≤ bitsOf a.fam := by rw [← h1]; exact m4
    refine ⟨m3, hle, pf_ext ?_ ((maskN_same a p.n).2 ⟨m3, hle⟩)⟩
    unfold maskQ
    rw [← (maskN_same a p.n).2 ⟨m3, hle⟩]
    refine bits_ext hp (ok_fillA a ha _) h1 (fun j hj => ?_)
    rw [fillA_bits a ha _ j hj]
    split
    · rename_i hc
      have := m5 j hc.1 (by rw [h1]; exact hc.2)
      rw [bitA_of (by rw [h1]; exact hc.2)] at this
      omega
    · rename_i hc
      by_cases hj2 : (j : Int) < bitsOf a.fam
      · have := h2 j (by omega)
        rw [bitA_of (by rw [h1]; exact hj2), bitA_of hj2] at this
        omega
      · rw [mayA_bits ha hma h0 hj (by omega), mayA_bits hp m1 m2 hj (by rw [h1]; omega)]
  · rintro ⟨h1, h2, h3⟩
    have hn := (maskN_same a p.n).2 ⟨h1, h2⟩
    have hpa : p.a = fillA a p.n := by
      conv => lhs; rw [h3]
      unfold maskQ
      rw [← hn]
    have hf : p.a.fam = a.fam := by rw [hpa]; rfl
    refine ⟨hf, fun j hj => ?_⟩
    have hj2 : (j : Int) < bitsOf a.fam := by omega
    rw [bitA_of (by rw [hf]; exact hj2), bitA_of hj2, hpa, fillA_bits a ha _ j (by omega), if_neg (by omega)]
/-! ### the longest prefix that has an address -/
/-- What is found: the longest of the prefixes that have the address; none, if none has it. -/
def Best (l : List En) (a : Ad) : Option En → Prop
  | none => ∀ e ∈ l, hasB e.p a = false
  | some e => e ∈ l ∧ hasB e.p a = true ∧ ∀ x ∈ l, hasB x.p a = true → x.p.n ≤ e.p.n
theorem sorted_inj : ∀ {l : List En}, okE l → Sorted l → ∀ {x y : En}, x ∈ l → y ∈ l → x.p = y.p → x = y
  | [], _, _, x, y, hx, _, _ => by cases hx
  | e :: l, hl, hs, x, y, hx, hy, h => by
    obtain ⟨h1, h2⟩ := List.pairwise_cons.1 hs
    have hself : ∀ z : En, z ∈ l → z.p = e.p → False := fun z hz he => by
      have k := h1 z hz
      rw [he, (cmpP_zero (hl e (List.mem_cons_self ..)) (hl e (List.mem_cons_self ..))).2 rfl] at k
      exact absurd k (by decide)
    rcases List.mem_cons.1 hx with hx' | hx'
    · rcases List.mem_cons.1 hy with hy' | hy'
      · rw [hx', hy']
      · exact (hself y hy' (by rw [← h, hx'])).elim
    · rcases List.mem_cons.1 hy with hy' | hy'
      · exact (hself x hx' (by rw [h, hy'])).elim
      · exact sorted_inj (fun z hz => hl z (List.mem_cons_of_mem _ hz)) h2 hx' hy' h
theorem best_one {l : List En} (hl : okE l) (hs : Sorted l) (hm : ∀ e ∈ l, mayP e.p = true) {a : Ad} (ha : a.ok) (hma : mayA a = true) (h0 : a.fam ≠ 0) : ∀ {r s : Option En}, Best l a r → Best l a s → r = s
  | none, none, _, _ => rfl
  | none, some e, h1, h2 => by have := h1 e h2.1; rw [h2.2.1] at this; cases this
  | some e, none, h1, h2 => by have := h2 e h1.1; rw [h1.2.1] at this; cases this
  | some x, some y, h1, h2 => by
    have k1 := h1.2.2 y h2.1 h2.2.1
    have k2 := h2.2.2 x h1.1 h1.2.1
    have e1 := ((has_mask (hl x h1.1) (hm x h1.1) ha hma h0).1 h1.2.1).2.2
    have e2 := ((has_mask (hl y h2.1) (hm y h2.1) ha hma h0).1 h2.2.1).2.2
    have hn : x.p.n = y.p.n := by omega
    rw [sorted_inj hl hs h1.1 h2.1 (by rw [e1, e2, hn])]
theorem best_ref (l : List En) (a : Ad) : ∀ i, i ≤ l.length → Best (l.take i) a (bestE l a i)
  | 0, _ => fun e he => by rw [List.take_zero] at he; cases he
  | i + 1, hi => by
    have ih := best_ref l a i (by omega)
    have he : l[i]? = some l[i] := List.getElem?_eq_getElem (by omega)
    have ht : l.take (i + 1) = l.take i ++ [l[i]] := by rw [List.take_add_one, he]; rfl
    rw [ht]
    cases hc : (hasB l[i].p a && longer (bestE l a i) l[i]) with
    | true =>
      rw [best_yes he hc]
      rw [Bool.and_eq_true] at hc
      refine ⟨List.mem_append_right _ (List.mem_singleton_self _), hc.1, fun x hx hxa => ?_⟩
      rcases List.mem_append.1 hx with hx | hx
      · cases hb : bestE l a i with
        | none => rw [hb] at ih; have := ih x hx; rw [hxa] at this; cases this
        | some e =>
          rw [hb] at ih hc
          have h1 := ih.2.2 x hx hxa
          have h2 : decide (e.p.n < l[i].p.n) = true := hc.2
          rw [decide_eq_true_eq] at h2
          omega
      · rw [List.mem_singleton] at hx
        rw [hx]
        exact Int.le_refl _
    | false =>
      rw [best_no he hc]
      rw [Bool.and_eq_false_iff] at hc
      cases hb : bestE l a i with
      | none =>
        rw [hb] at ih hc
        intro x hx
        rcases List.mem_append.1 hx with hx | hx
        · exact ih x hx
        · rw [List.mem_singleton] at hx
          rw [hx]
          rcases hc with hc | hc
          · exact hc
          · cases hc
      | some e =>
        rw [hb] at ih hc
        refine ⟨List.mem_append_left _ ih.1, ih.2.1, fun x hx hxa => ?_⟩
        rcases List.mem_append.1 hx with hx | hx
        · exact ih.2.2 x hx hxa
        · rw [List.mem_singleton] at hx
          rw [hx] at hxa ⊢
          rcases hc with hc | hc
          · rw [hxa] at hc; cases hc
          · have h2 : decide (e.p.n < l[i].p.n) = false := hc
            rw [decide_eq_false_iff_not] at h2
            omega
theorem best_list (l : List En) (a : Ad) : Best l a (bestE l a l.length) := by
  have := best_ref l a l.length (Nat.le_refl _)
  rw [List.take_length] at this
  exact this
theorem get_some {l : List En} {p : Pf} (h : hasE l p = true) : ∃ e, getE l p = some e ∧ e ∈ l ∧ e.p = p := by
  unfold hasE at h
  rw [List.any_eq_true] at h
  obtain ⟨x, hx, hxp⟩ := h
  cases hg : getE l p with
  | none =>
    unfold getE at hg
    rw [List.find?_eq_none] at hg
    exact absurd hxp (hg x hx)
  | some e =>
    have h1 := List.find?_some hg
    rw [decide_eq_true_eq] at h1
    exact ⟨e, rfl, List.mem_of_find?_eq_some hg, h1⟩
theorem has_not {l : List En} {p : Pf} (h : hasE l p = false) {x : En} (hx : x ∈ l) : x.p ≠ p := by
  unfold hasE at h
  rw [List.any_eq_false] at h
  have := h x hx
  rw [decide_eq_true_eq] at this
  exact this
theorem maskQ_n (a : Ad) (n : Int) (h : 0 ≤ n ∧ n ≤ bitsOf a.fam) : (maskQ a n).n = n := ((maskN_same a n).2 h).symm
theorem find_best {l : List En} (hl : okE l) (hm : ∀ e ∈ l, mayP e.p = true) {a : Ad} (ha : a.ok) (hma : mayA a = true) (h0 : a.fam ≠ 0) : ∀ n : Nat, (n : Int) ≤ bitsOf a.fam → (∀ x ∈ l, hasB x.p a = true → x.p.n ≤ (n : Int)) → Best l a (findL l a n) := by
  have hit : ∀ (n : Nat), (n : Int) ≤ bitsOf a.fam → (∀ x ∈ l, hasB x.p a = true → x.p.n ≤ (n : Int)) → hasE l (maskQ a (n : Int)) = true → Best l a (getE l (maskQ a (n : Int))) := by
    intro n hn hx hh
    obtain ⟨e, h1, h2, h3⟩ := get_some hh
    rw [h1]
    have hen : e.p.n = (n : Int) := by rw [h3]; exact maskQ_n a _ ⟨by omega, hn⟩
    exact ⟨h2, (has_mask (hl e h2) (hm e h2) ha hma h0).2 ⟨by omega, by omega, by rw [hen]; exact h3⟩, fun x k1 k2 => by rw [hen]; exact hx x k1 k2⟩
  intro n
  induction n with
  | zero =>
    intro hn hx
    unfold findL
    cases hh : hasE l (maskQ a 0) with
    | true => exact hit 0 hn hx hh
    | false =>
      rw [get_none hh]
      intro x hxl
      cases hb : hasB x.p a with
      | false => rfl
      | true =>
        obtain ⟨k1, k2, k3⟩ := (has_mask (hl x hxl) (hm x hxl) ha hma h0).1 hb
        have k4 := hx x hxl hb
        have k5 : x.p.n = 0 := by
          have : x.p.n ≤ 0 := k4
          omega
        rw [k5] at k3
        exact absurd k3 (has_not hh hxl)
  | succ n ih =>
    intro hn hx
    unfold findL
    cases hh : hasE l (maskQ a ((n + 1 : Nat) : Int)) with
    | true =>
      rw [if_pos rfl]
      exact hit (n + 1) hn hx hh
    | false =>
      rw [if_neg (by decide)]
      refine ih (by omega) (fun x hxl hb => ?_)
      obtain ⟨k1, k2, k3⟩ := (has_mask (hl x hxl) (hm x hxl) ha hma h0).1 hb
      have k4 := hx x hxl hb
      by_cases hc : x.p.n = ((n + 1 : Nat) : Int)
      · rw [hc] at k3
        exact absurd k3 (has_not hh hxl)
      · omega
theorem findQ_best {l : List En} (hl : okE l) (hm : ∀ e ∈ l, mayP e.p = true) {a : Ad} (ha : a.ok) (hma : mayA a = true) (h0 : a.fam ≠ 0) : Best l a (findQ l a) := by
  have hb := bitsOf_le a.fam
  unfold findQ findI
  rw [if_neg h0, if_neg (by omega)]
  refine find_best hl hm ha hma h0 _ (by omega) (fun x hx hh => ?_)
  have := ((has_mask (hl x hx) (hm x hx) ha hma h0).1 hh).2.1
  omega
theorem findQ_bestE {l : List En} (hl : okE l) (hs : Sorted l) (hm : ∀ e ∈ l, mayP e.p = true) {a : Ad} (ha : a.ok) (hma : mayA a = true) (h0 : a.fam ≠ 0) : findQ l a = bestE l a l.length :=
  best_one hl hs hm ha hma h0 (findQ_best hl hm ha hma h0) (best_list l a)
/-! ### addresses that are made such as may be -/
theorem four_tail (n : Int) (h0 : 0 ≤ n) (h1 : n < 4294967296) : mayA (of4 n) = true := by
  rw [of4_eq n h0 h1]
  rfl
theorem goodA_may {a : Ad} (ha : a.ok) : mayA (goodA a) = true ∧ (goodA a).fam ≠ 0 := by
  unfold goodA
  split
  · obtain ⟨h1, h2, _⟩ := four_bytes a.bs (byt_range ha)
    exact ⟨four_tail _ h1 h2, by show (4 : Int) ≠ 0; decide⟩
  · exact ⟨rfl, by show (6 : Int) ≠ 0; decide⟩
def z12 : List Int := [0, 0, 0, 0, 0, 0, 0, 0, 0, 0, 0, 0]
/-- An address of 32 bits, mapped. -/
def mapA (a : Ad) : Ad := if a.fam = 4 then ⟨6, [0, 0, 0, 0, 0, 0, 0, 0, 0, 0, 255, 255] ++ a.bs.take 4⟩ else a
def ownA (a : Ad) : Ad := ⟨4, a.bs.drop 12 ++ z12⟩
def unmapA (a : Ad) : Ad := if a = mapA (ownA a) then ownA a else a
def grp (l : List Int) (i : Nat) : Int := byt l (2 * i) * 256 + byt l (2 * i + 1)
def mappedB (g : Nat → Int) : Bool := g 0 == 0 && g 1 == 0 && g 2 == 0 && g 3 == 0 && g 4 == 0 && g 5 == 65535
def unmapR (a : Ad) : Ad := if a.fam = 6 ∧ mappedB (grp a.bs) = true then of4 (grp a.bs 6 * 65536 + grp a.bs 7) else a
theorem list16 {l : List Int} (h : l.length = 16) : ∃ b0 b1 b2 b3 b4 b5 b6 b7 b8 b9 b10 b11 b12 b13 b14 b15, l = [b0, b1, b2, b3, b4, b5, b6, b7, b8, b9, b10, b11, b12, b13, b14, b15] := by
  match l, h with
  | [b0, b1, b2, b3, b4, b5, b6, b7, b8, b9, b10, b11, b12, b13, b14, b15], _ => exact ⟨_, _, _, _, _, _, _, _, _, _, _, _, _, _, _, _, rfl⟩
theorem unmap_same {a : Ad} (ha : a.ok) : unmapA a = unmapR a := by
  obtain ⟨f, l⟩ := a
  obtain ⟨hl, hb⟩ := ha
  obtain ⟨b0, b1, b2, b3, b4, b5, b6, b7, b8, b9, b10, b11, b12, b13, b14, b15, rfl⟩ := list16 hl
  simp only [List.mem_cons, List.not_mem_nil, or_false, forall_eq_or_imp, forall_eq] at hb
  have e1 : mapA (ownA ⟨f, [b0, b1, b2, b3, b4, b5, b6, b7, b8, b9, b10, b11, b12, b13, b14, b15]⟩) = ⟨6, [0, 0, 0, 0, 0, 0, 0, 0, 0, 0, 255, 255, b12, b13, b14, b15]⟩ := rfl
  have e2 : ownA ⟨f, [b0, b1, b2, b3, b4, b5, b6, b7, b8, b9, b10, b11, b12, b13, b14, b15]⟩ = ⟨4, [b12, b13, b14, b15, 0, 0, 0, 0, 0, 0, 0, 0, 0, 0, 0, 0]⟩ := rfl
  unfold unmapA unmapR
  rw [e1, e2]
  have e3 : of4 (grp [b0, b1, b2, b3, b4, b5, b6, b7, b8, b9, b10, b11, b12, b13, b14, b15] 6 * 65536 + grp [b0, b1, b2, b3, b4, b5, b6, b7, b8, b9, b10, b11, b12, b13, b14, b15] 7) = ⟨4, [b12, b13, b14, b15, 0, 0, 0, 0, 0, 0, 0, 0, 0, 0, 0, 0]⟩ := by
    show of4 ((b12 * 256 + b13) * 65536 + (b14 * 256 + b15)) = _
    rw [of4_eq _ (by omega) (by omega)]
    show (⟨4, [((b12 * 256 + b13) * 65536 + (b14 * 256 + b15)) / 16777216 % 256, ((b12 * 256 + b13) * 65536 + (b14 * 256 + b15)) / 65536 % 256, ((b12 * 256 + b13) * 65536 + (b14 * 256 + b15)) / 256 % 256, ((b12 * 256 + b13) * 65536 + (b14 * 256 + b15)) % 256, 0, 0, 0, 0, 0, 0, 0, 0, 0, 0, 0, 0]⟩ : Ad) = _
    rw [show ((b12 * 256 + b13) * 65536 + (b14 * 256 + b15)) / 16777216 % 256 = b12 by omega, show ((b12 * 256 + b13) * 65536 + (b14 * 256 + b15)) / 65536 % 256 = b13 by omega, show ((b12 * 256 + b13) * 65536 + (b14 * 256 + b15)) / 256 % 256 = b14 by omega, show ((b12 * 256 + b13) * 65536 + (b14 * 256 + b15)) % 256 = b15 by omega]
  dsimp only
  by_cases h : f = 6 ∧ mappedB (grp [b0, b1, b2, b3, b4, b5, b6, b7, b8, b9, b10, b11, b12, b13, b14, b15]) = true
  · rw [if_pos h, e3, if_pos]
    obtain ⟨rfl, hm⟩ := h
    simp [mappedB, grp, byt] at hm
    have : b0 = 0 ∧ b1 = 0 ∧ b2 = 0 ∧ b3 = 0 ∧ b4 = 0 ∧ b5 = 0 ∧ b6 = 0 ∧ b7 = 0 ∧ b8 = 0 ∧ b9 = 0 ∧ b10 = 255 ∧ b11 = 255 := by omega
    obtain ⟨rfl, rfl, rfl, rfl, rfl, rfl, rfl, rfl, rfl, rfl, rfl, rfl⟩ := this
    rfl
  · rw [if_neg h, if_neg]
    intro he
    injection he with h1 h2
    simp only [List.cons.injEq, and_true] at h2
    apply h
    obtain ⟨rfl, rfl, rfl, rfl, rfl, rfl, rfl, rfl, rfl, rfl, rfl, rfl, _⟩ := h2
    exact ⟨h1, rfl⟩
theorem ok_own {a : Ad} (ha : a.ok) : (ownA a).ok := by
  refine ⟨?_, fun x hx => ?_⟩
  · unfold ownA z12
    have := ha.1
    rw [List.length_append, List.length_drop, this]
    rfl
  · rcases List.mem_append.1 hx with h | h
    · exact ha.2 x (List.mem_of_mem_drop h)
    · simp only [z12, List.mem_cons, List.not_mem_nil, or_false] at h
      omega
theorem ok_map {a : Ad} (ha : a.ok) : (mapA a).ok := by
  unfold mapA
  split
  · refine ⟨?_, fun x hx => ?_⟩
    · show ([0, 0, 0, 0, 0, 0, 0, 0, 0, 0, 255, 255] ++ a.bs.take 4 : List Int).length = 16
      rw [List.length_append, List.length_take, ha.1]
      rfl
    · rcases List.mem_append.1 hx with h | h
      · simp only [List.mem_cons, List.not_mem_nil, or_false] at h
        omega
      · exact ha.2 x (List.mem_of_mem_take h)
  · exact ha
theorem ok_unmap {a : Ad} (ha : a.ok) : (unmapA a).ok := by
  unfold unmapA
  split
  · exact ok_own ha
  · exact ha
theorem own_may {a : Ad} (ha : a.ok) : mayA (ownA a) = true ∧ (ownA a).fam ≠ 0 := by
  obtain ⟨f, l⟩ := a
  obtain ⟨hl, _⟩ := ha
  obtain ⟨b0, b1, b2, b3, b4, b5, b6, b7, b8, b9, b10, b11, b12, b13, b14, b15, rfl⟩ := list16 hl
  exact ⟨rfl, by show (4 : Int) ≠ 0; decide⟩
theorem unmap_may {a : Ad} (ha : a.ok) (h : mayA a = true ∧ a.fam ≠ 0) : mayA (unmapA a) = true ∧ (unmapA a).fam ≠ 0 := by
  unfold unmapA
  split
  · exact own_may ha
  · exact h
end Go.Proofs.YthdognlkacjkhaaGreatDoor.P
end
