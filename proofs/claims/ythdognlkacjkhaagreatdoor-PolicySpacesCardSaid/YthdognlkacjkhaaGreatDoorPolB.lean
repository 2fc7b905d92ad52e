/-
  A map of entries, behind those that are told first, of both (abatislaw16.maps).
-/
import Derived.Test.YthdognlkacjkhaaGreatDoorPolA
namespace Go.Proofs.YthdognlkacjkhaaGreatDoor.P
open Go.RowKit Go.Proofs.YthdognlkacjkhaaGreatDoorW.PrintWords Go.Proofs.YthdognlkacjkhaaGreatDoorW.PrintLast Go.Proofs.YthdognlkacjkhaaGreatDoorW.PrintMore
set_option linter.unusedVariables false
set_option linter.unusedSimpArgs false
/-- Entries that are added behind those that are told first. -/
def mkS (L : List En) : List En := L.foldl (fun l e => addS l e.p e.v) defL
theorem mkS_snoc (L : List En) (e : En) : mkS (L ++ [e]) = addS (mkS L) e.p e.v := by unfold mkS; rw [List.foldl_append]; rfl
theorem fine_mkS : ∀ (L : List En), (∀ e ∈ L, e.p.a.ok) → Fine (mkS L) (11 + L.length) := by
  have h : ∀ (L : List En) (l : List En) (n : Nat), (∀ e ∈ L, e.p.a.ok) → Fine l n → Fine (L.foldl (fun l e => addS l e.p e.v) l) (n + L.length) := by
    intro L
    induction L with
    | nil => exact fun l n _ h => h
    | cons d L ih =>
      intro l n hL h
      have := ih (addS l d.p d.v) (n + 1) (fun x hx => hL x (List.mem_cons_of_mem _ hx)) (fine_addS h (hL d (List.mem_cons_self ..)) d.v)
      rw [show n + 1 + L.length = n + (d :: L).length by rw [List.length_cons]; omega] at this
      exact this
  exact fun L hL => h L defL 11 hL fine_def
set_option maxHeartbeats 8000000 in
set_option maxRecDepth 100000 in
theorem law16_maps (A : Option Addr) (n cap : Nat) (L : List En) (w : World) (hmx : MaxIs w) (hrd : RdT w A n cap L) :
    Calls Tryz.prog 4 #[.slice A n cap] w fun r w' => ∃ (M T : Nat) (sv u : Value), r = .returned (.tuple #[.pointer (some ⟨M, 0, none⟩), u]) ∧ w.heap.size ≤ T ∧ Mp w' M T T ((0 : Nat) : Int) sv (mkS (L.take 6)) ∧ Ow w' u (mkS (L.take 6)) ∧ Below w.heap.size w w' := by
  have HB := Aside0.mk (Below.refl w.heap.size w)
  have HMX := Aside0.mk hmx
  have HRD := Aside0.mk hrd
  have HALL := Aside0.mk (show ∀ e ∈ L, e.p.a.ok from fun x hx => by
    obtain ⟨i, hi⟩ := List.getElem?_of_mem hx
    obtain ⟨_, _, _, _, h⟩ := hrd.at_ i x hi
    exact h)
  clear hmx hrd
  go_enter Tryz.func4, Tryz.ntmps4
  go_wp2_with (first
    | (go_at_call 9; refine (space_Default _ (maxis_below HMX.out HB.out)).mono ?_; rintro r w1 ⟨M, sv, rfl, hz, hm, hb⟩; obtain ⟨T, hT⟩ : ∃ T, w.heap.size = T := ⟨_, rfl⟩; have HLT := Aside0.mk (show w.heap.size ≤ T from Nat.le_of_eq hT); rw [hT] at hm; have HM := Aside0.mk hm; replace HB := Aside0.mk (below_step HB.out hb); clear hb hm hz hT)
    | (go_at_call 10; refine (ref07_Default _ (maxis_below HMX.out HB.out)).mono ?_; rintro r w2 ⟨u, rfl, ho, hb⟩; have HOW := Aside0.mk ho; replace HM := Aside0.mk (mp_below HM.out hb); replace HB := Aside0.mk (below_step HB.out hb); clear hb ho))
  go_loopw [5, 6] (fun v5 v6 wr => ∃ (i : Nat) (u : Value), u = v5 ∧ v6 = .int .i64 (i : Int) ∧ Aside0 (i ≤ n ∧ i ≤ 6) ∧ Aside0 (∃ sv, Mp wr M T T ((0 : Nat) : Int) sv (mkS (L.take i))) ∧ Aside0 (Ow wr u (mkS (L.take i))) ∧ Aside0 (Below w.heap.size w wr)) (fun _ v6 _ => 6 - (intOf v6).toNat)
  case atStart => exact ⟨0, _, rfl, rfl, ⟨Nat.zero_le _, Nat.zero_le _⟩, ⟨⟨sv, HM.out⟩⟩, HOW, HB⟩
  case round =>
    clear HM HOW HB
    obtain ⟨i, u, rfl, rfl, HI, HMS, HOW, HB⟩ := hrel
    have HLN := Aside0.mk HRD.out.len
    by_cases hi : i < n ∧ i < 6
    · have e0 : decide ((i : Int) < (n : Int)) = true := decide_eq_true (by omega)
      have e0n : decide (i < n) = true := decide_eq_true hi.1
      have e1 : decide ((i : Int) < 6) = true := decide_eq_true (by omega)
      have e1n : decide (i < 6) = true := decide_eq_true hi.2
      have HI2 := Aside0.mk hi
      obtain ⟨e, he⟩ : ∃ e, L[i]? = some e := ⟨L[i]'(by have := HLN.out; omega), List.getElem?_eq_getElem _⟩
      obtain ⟨G, o, hidx, hrg, heok⟩ := HRD.out.at_ i e he
      have hix := fun w => hidx w n cap hi.1
      have HR0 := Aside0.mk hrg
      have HRG := Aside0.mk (range_below hrg HB.out)
      have HEO := Aside0.mk heok
      have HFI := Aside0.mk (fine_mkS (L.take i) (fun x hx => HALL.out x (List.mem_of_mem_take hx)))
      have hlt : (L.take i).length ≤ i := by rw [List.length_take]; exact Nat.min_le_left _ _
      have HLI := Aside0.mk (show (mkS (L.take i)).length ≤ 1000 by have h1 := HFI.out.len; omega)
      clear hlt
      have HSN := Aside0.mk (show mkS (L.take (i + 1)) = addS (mkS (L.take i)) e.p e.v by rw [List.take_add_one, he]; exact mkS_snoc _ e)
      have E1 := Aside0.mk (wrap_up6 i (by omega))
      obtain ⟨sv, hm⟩ := HMS.out
      have HM := Aside0.mk hm
      clear he hidx hrg heok hm HMS hi
      go_wp2
      obtain ⟨S, hS⟩ : ∃ S : World → Prop, S = fun w' => w'.rangeAt G o (lE e) := ⟨_, rfl⟩
      have HSx := Aside0.mk (show ∀ x : World, S x → x.rangeAt G o (lE e) by intro b h; rw [hS] at h; exact h)
      have HSi := Aside0.mk (show ∀ x : World, x.rangeAt G o (lE e) → S x by intro b h; rw [hS]; exact h)
      have s0 : S wr.drew := HSi.out _ HRG.out
      have hb := bdrew (Below.refl wr.heap.size wr)
      replace HB := Aside0.mk (bdrew HB.out)
      replace HM := Aside0.mk (mp_below HM.out hb)
      replace HOW := Aside0.mk (ow_below HOW.out hb)
      clear hS hb HRG
      refine wp_region_held_drew (S := S) (by kernel_rfl) s0 (fun _ => ?_)
      generalize wr.drew = y0 at s0 HB HM HOW ⊢
      (try simp only [Act.put, List.getElem_toArray, List.getElem_cons_succ, List.getElem_cons_zero, List.setIfInBounds_toArray, List.set_cons_zero, List.set_cons_succ])
      refine wpAnyH_take (i := 0) (v := .pointer (some ⟨M, 0, none⟩)) rfl (by kernel_rfl) (by kernel_rfl) (by kernel_rfl) (fun _ _ _ h => h) (Or.inl ⟨by kernel_rfl, fun w' h => by first | (go_simp; done) | (go_simp; rfl)⟩) s0 ?_
      (try simp only [Act.put, List.getElem_toArray, List.getElem_cons_succ, List.getElem_cons_zero, List.setIfInBounds_toArray, List.set_cons_zero, List.set_cons_succ])
      refine wpAnyH_take (i := 1) (v := .slice A n cap) rfl (by kernel_rfl) (by kernel_rfl) (by kernel_rfl) (fun _ _ _ h => h) (Or.inl ⟨by kernel_rfl, fun w' h => by first | (go_simp; done) | (go_simp; rfl)⟩) s0 ?_
      (try simp only [Act.put, List.getElem_toArray, List.getElem_cons_succ, List.getElem_cons_zero, List.setIfInBounds_toArray, List.set_cons_zero, List.set_cons_succ])
      refine wpAnyH_take (i := 2) (v := .int .i64 (i : Int)) rfl (by kernel_rfl) (by kernel_rfl) (by kernel_rfl) (fun _ _ _ h => h) (Or.inl ⟨by kernel_rfl, fun w' h => by first | (go_simp; done) | (go_simp; rfl)⟩) s0 ?_
      (try simp only [Act.put, List.getElem_toArray, List.getElem_cons_succ, List.getElem_cons_zero, List.setIfInBounds_toArray, List.set_cons_zero, List.set_cons_succ])
      refine wpAnyH_take (i := 3) (v := .pointer (some ⟨G, o, none⟩)) rfl (by kernel_rfl) (by kernel_rfl) (by kernel_rfl) (fun _ _ _ h => h) (Or.inl ⟨by kernel_rfl, fun w' h => by have hf := hix w'; first | (go_simp; done) | (go_simp; rfl)⟩) s0 ?_
      (try simp only [Act.put, List.getElem_toArray, List.getElem_cons_succ, List.getElem_cons_zero, List.setIfInBounds_toArray, List.set_cons_zero, List.set_cons_succ])
      refine wpAnyH_take (i := 4) (v := .pointer (some ⟨G, o, none⟩)) rfl (by kernel_rfl) (by kernel_rfl) (by kernel_rfl) (fun _ _ _ h => h) (Or.inl ⟨by kernel_rfl, fun w' h => by first | (go_simp; done) | (go_simp; rfl)⟩) s0 ?_
      (try simp only [Act.put, List.getElem_toArray, List.getElem_cons_succ, List.getElem_cons_zero, List.setIfInBounds_toArray, List.set_cons_zero, List.set_cons_succ])
      refine wpAnyH_take (i := 5) (v := .agg (eP e.p)) rfl (by kernel_rfl) (by kernel_rfl) (by kernel_rfl) (fun _ _ _ h => h) (yieldsIf_load_mid (by kernel_rfl) 42 (.tmp 29) rfl G o rfl (lP e.p) _ (fun w' h => part_pf (HSx.out w' h)) Tryz.underlying42 rfl (infoPf_len HEO.out)) s0 ?_
      (try simp only [Act.put, List.getElem_toArray, List.getElem_cons_succ, List.getElem_cons_zero, List.setIfInBounds_toArray, List.set_cons_zero, List.set_cons_succ])
      refine wpAnyH_take (i := 6) (v := .slice A n cap) rfl (by kernel_rfl) (by kernel_rfl) (by kernel_rfl) (fun _ _ _ h => h) (Or.inl ⟨by kernel_rfl, fun w' h => by first | (go_simp; done) | (go_simp; rfl)⟩) s0 ?_
      (try simp only [Act.put, List.getElem_toArray, List.getElem_cons_succ, List.getElem_cons_zero, List.setIfInBounds_toArray, List.set_cons_zero, List.set_cons_succ])
      refine wpAnyH_take (i := 7) (v := .int .i64 (i : Int)) rfl (by kernel_rfl) (by kernel_rfl) (by kernel_rfl) (fun _ _ _ h => h) (Or.inl ⟨by kernel_rfl, fun w' h => by first | (go_simp; done) | (go_simp; rfl)⟩) s0 ?_
      (try simp only [Act.put, List.getElem_toArray, List.getElem_cons_succ, List.getElem_cons_zero, List.setIfInBounds_toArray, List.set_cons_zero, List.set_cons_succ])
      refine wpAnyH_take (i := 8) (v := .pointer (some ⟨G, o, none⟩)) rfl (by kernel_rfl) (by kernel_rfl) (by kernel_rfl) (fun _ _ _ h => h) (Or.inl ⟨by kernel_rfl, fun w' h => by have hf := hix w'; first | (go_simp; done) | (go_simp; rfl)⟩) s0 ?_
      (try simp only [Act.put, List.getElem_toArray, List.getElem_cons_succ, List.getElem_cons_zero, List.setIfInBounds_toArray, List.set_cons_zero, List.set_cons_succ])
      refine wpAnyH_take (i := 9) (v := .pointer (some ⟨G, o + 18, none⟩)) rfl (by kernel_rfl) (by kernel_rfl) (by kernel_rfl) (fun _ _ _ h => h) (Or.inl ⟨by kernel_rfl, fun w' h => by first | (go_simp; done) | (go_simp; rfl)⟩) s0 ?_
      (try simp only [Act.put, List.getElem_toArray, List.getElem_cons_succ, List.getElem_cons_zero, List.setIfInBounds_toArray, List.set_cons_zero, List.set_cons_succ])
      refine wpAnyH_take (i := 10) (v := .int .i64 e.v) rfl (by kernel_rfl) (by kernel_rfl) (by kernel_rfl) (fun _ _ _ h => h) (Or.inl ⟨by kernel_rfl, fun w' h => by have hf := part_v HEO.out (HSx.out w' h); first | (go_simp; done) | (go_simp; rfl)⟩) s0 ?_
      (try simp only [Act.put, List.getElem_toArray, List.getElem_cons_succ, List.getElem_cons_zero, List.setIfInBounds_toArray, List.set_cons_zero, List.set_cons_succ])
      refine held_step (i := 11) (by kernel_rfl) rfl (by kernel_rfl) (fun K hK => ?_)
      go_wp2_with (go_at_call 11; refine (map_Add M T T _ sv (mkS (L.take i)) (mkS (L.take (i + 1))) e.p HEO.out e.v (erS e.p e.v) rfl HSN.out _ HM.out HFI.out.sorted HLI.out (Nat.le_of_lt (blk_lt HM.out.tb.blk))).mono ?_; rintro r x2 ⟨rfl, HM3, HCH⟩; replace HOW := Aside0.mk (ow_chg HOW.out HM.out.tb.blk HCH.out); replace HB := Aside0.mk (HB.out.trans ((chg_base HCH.out (Nat.le_refl _) (Nat.le_of_lt (blk_lt HM.out.tb.blk))).mono HLT.out)); have s1 := HSi.out _ (range_below HR0.out HB.out); obtain ⟨sv3, hm3⟩ := HM3.out; replace HM := Aside0.mk hm3; clear hm3 HM3 HCH)
      refine hK.out _ _ s1 ?_
      clear hK K s0
      (try simp only [Act.put, List.getElem_toArray, List.getElem_cons_succ, List.getElem_cons_zero, List.setIfInBounds_toArray, List.set_cons_zero, List.set_cons_succ])
      refine wpAnyH_done (by kernel_rfl) ?_ _
      have HRG := Aside0.mk (HSx.out _ s1)
      clear s1 HSx HSi
      go_wp2
      obtain ⟨S, hS⟩ : ∃ S : World → Prop, S = fun w' => w'.rangeAt G o (lE e) := ⟨_, rfl⟩
      have HSx := Aside0.mk (show ∀ x : World, S x → x.rangeAt G o (lE e) by intro b h; rw [hS] at h; exact h)
      have HSi := Aside0.mk (show ∀ x : World, x.rangeAt G o (lE e) → S x by intro b h; rw [hS]; exact h)
      have s0 : S x2.drew := HSi.out _ HRG.out
      have hb := bdrew (Below.refl x2.heap.size x2)
      replace HB := Aside0.mk (bdrew HB.out)
      replace HM := Aside0.mk (mp_below HM.out hb)
      replace HOW := Aside0.mk (ow_below HOW.out hb)
      clear hS hb HRG
      refine wp_region_held_drew (S := S) (by kernel_rfl) s0 (fun _ => ?_)
      generalize x2.drew = z0 at s0 HB HM HOW ⊢
      (try simp only [Act.put, List.getElem_toArray, List.getElem_cons_succ, List.getElem_cons_zero, List.setIfInBounds_toArray, List.set_cons_zero, List.set_cons_succ])
      refine wpAnyH_take (i := 0) (v := u) rfl (by kernel_rfl) (by kernel_rfl) (by kernel_rfl) (fun _ _ _ h => h) (Or.inl ⟨by kernel_rfl, fun w' h => by first | (go_simp; done) | (go_simp; rfl)⟩) s0 ?_
      (try simp only [Act.put, List.getElem_toArray, List.getElem_cons_succ, List.getElem_cons_zero, List.setIfInBounds_toArray, List.set_cons_zero, List.set_cons_succ])
      refine wpAnyH_take (i := 1) (v := .slice A n cap) rfl (by kernel_rfl) (by kernel_rfl) (by kernel_rfl) (fun _ _ _ h => h) (Or.inl ⟨by kernel_rfl, fun w' h => by first | (go_simp; done) | (go_simp; rfl)⟩) s0 ?_
      (try simp only [Act.put, List.getElem_toArray, List.getElem_cons_succ, List.getElem_cons_zero, List.setIfInBounds_toArray, List.set_cons_zero, List.set_cons_succ])
      refine wpAnyH_take (i := 2) (v := .int .i64 (i : Int)) rfl (by kernel_rfl) (by kernel_rfl) (by kernel_rfl) (fun _ _ _ h => h) (Or.inl ⟨by kernel_rfl, fun w' h => by first | (go_simp; done) | (go_simp; rfl)⟩) s0 ?_
      (try simp only [Act.put, List.getElem_toArray, List.getElem_cons_succ, List.getElem_cons_zero, List.setIfInBounds_toArray, List.set_cons_zero, List.set_cons_succ])
      refine wpAnyH_take (i := 3) (v := .pointer (some ⟨G, o, none⟩)) rfl (by kernel_rfl) (by kernel_rfl) (by kernel_rfl) (fun _ _ _ h => h) (Or.inl ⟨by kernel_rfl, fun w' h => by have hf := hix w'; first | (go_simp; done) | (go_simp; rfl)⟩) s0 ?_
      (try simp only [Act.put, List.getElem_toArray, List.getElem_cons_succ, List.getElem_cons_zero, List.setIfInBounds_toArray, List.set_cons_zero, List.set_cons_succ])
      refine wpAnyH_take (i := 4) (v := .pointer (some ⟨G, o, none⟩)) rfl (by kernel_rfl) (by kernel_rfl) (by kernel_rfl) (fun _ _ _ h => h) (Or.inl ⟨by kernel_rfl, fun w' h => by first | (go_simp; done) | (go_simp; rfl)⟩) s0 ?_
      (try simp only [Act.put, List.getElem_toArray, List.getElem_cons_succ, List.getElem_cons_zero, List.setIfInBounds_toArray, List.set_cons_zero, List.set_cons_succ])
      refine wpAnyH_take (i := 5) (v := .agg (eP e.p)) rfl (by kernel_rfl) (by kernel_rfl) (by kernel_rfl) (fun _ _ _ h => h) (yieldsIf_load_mid (by kernel_rfl) 42 (.tmp 42) rfl G o rfl (lP e.p) _ (fun w' h => part_pf (HSx.out w' h)) Tryz.underlying42 rfl (infoPf_len HEO.out)) s0 ?_
      (try simp only [Act.put, List.getElem_toArray, List.getElem_cons_succ, List.getElem_cons_zero, List.setIfInBounds_toArray, List.set_cons_zero, List.set_cons_succ])
      refine wpAnyH_take (i := 6) (v := .slice A n cap) rfl (by kernel_rfl) (by kernel_rfl) (by kernel_rfl) (fun _ _ _ h => h) (Or.inl ⟨by kernel_rfl, fun w' h => by first | (go_simp; done) | (go_simp; rfl)⟩) s0 ?_
      (try simp only [Act.put, List.getElem_toArray, List.getElem_cons_succ, List.getElem_cons_zero, List.setIfInBounds_toArray, List.set_cons_zero, List.set_cons_succ])
      refine wpAnyH_take (i := 7) (v := .int .i64 (i : Int)) rfl (by kernel_rfl) (by kernel_rfl) (by kernel_rfl) (fun _ _ _ h => h) (Or.inl ⟨by kernel_rfl, fun w' h => by first | (go_simp; done) | (go_simp; rfl)⟩) s0 ?_
      (try simp only [Act.put, List.getElem_toArray, List.getElem_cons_succ, List.getElem_cons_zero, List.setIfInBounds_toArray, List.set_cons_zero, List.set_cons_succ])
      refine wpAnyH_take (i := 8) (v := .pointer (some ⟨G, o, none⟩)) rfl (by kernel_rfl) (by kernel_rfl) (by kernel_rfl) (fun _ _ _ h => h) (Or.inl ⟨by kernel_rfl, fun w' h => by have hf := hix w'; first | (go_simp; done) | (go_simp; rfl)⟩) s0 ?_
      (try simp only [Act.put, List.getElem_toArray, List.getElem_cons_succ, List.getElem_cons_zero, List.setIfInBounds_toArray, List.set_cons_zero, List.set_cons_succ])
      refine wpAnyH_take (i := 9) (v := .pointer (some ⟨G, o + 18, none⟩)) rfl (by kernel_rfl) (by kernel_rfl) (by kernel_rfl) (fun _ _ _ h => h) (Or.inl ⟨by kernel_rfl, fun w' h => by first | (go_simp; done) | (go_simp; rfl)⟩) s0 ?_
      (try simp only [Act.put, List.getElem_toArray, List.getElem_cons_succ, List.getElem_cons_zero, List.setIfInBounds_toArray, List.set_cons_zero, List.set_cons_succ])
      refine wpAnyH_take (i := 10) (v := .int .i64 e.v) rfl (by kernel_rfl) (by kernel_rfl) (by kernel_rfl) (fun _ _ _ h => h) (Or.inl ⟨by kernel_rfl, fun w' h => by have hf := part_v HEO.out (HSx.out w' h); first | (go_simp; done) | (go_simp; rfl)⟩) s0 ?_
      (try simp only [Act.put, List.getElem_toArray, List.getElem_cons_succ, List.getElem_cons_zero, List.setIfInBounds_toArray, List.set_cons_zero, List.set_cons_succ])
      refine held_step (i := 11) (by kernel_rfl) rfl (by kernel_rfl) (fun K hK => ?_)
      go_wp2_with (go_at_call 12; refine (ref07_Add _ (mkS (L.take i)) _ HFI.out HLI.out e.p HEO.out e.v _ _ HSN.out rfl _ HOW.out).mono ?_; rintro r y1 ⟨u1, rfl, HO1, HB1⟩; have hb := HB1.out; have s1 := HSi.out _ (range_below (HSx.out _ s0) hb); replace HM := Aside0.mk (mp_below HM.out hb); replace HB := Aside0.mk (below_step HB.out hb); clear hb HB1)
      refine hK.out _ _ s1 ?_
      clear hK K s0
      (try simp only [Act.put, List.getElem_toArray, List.getElem_cons_succ, List.getElem_cons_zero, List.setIfInBounds_toArray, List.set_cons_zero, List.set_cons_succ])
      refine wpAnyH_take (i := 12) (v := .tuple #[u1, .int .i64 (erS e.p e.v)]) rfl (by kernel_rfl) (by kernel_rfl) (by kernel_rfl) (fun _ _ _ h => h) (Or.inl ⟨by kernel_rfl, fun w' h => by first | (go_simp; done) | (go_simp; rfl)⟩) s1 ?_
      (try simp only [Act.put, List.getElem_toArray, List.getElem_cons_succ, List.getElem_cons_zero, List.setIfInBounds_toArray, List.set_cons_zero, List.set_cons_succ])
      refine wpAnyH_take (i := 13) (v := u1) rfl (by kernel_rfl) (by kernel_rfl) (by kernel_rfl) (fun _ _ _ h => h) (Or.inl ⟨by kernel_rfl, fun w' h => by first | (go_simp; done) | (go_simp; rfl)⟩) s1 ?_
      (try simp only [Act.put, List.getElem_toArray, List.getElem_cons_succ, List.getElem_cons_zero, List.setIfInBounds_toArray, List.set_cons_zero, List.set_cons_succ])
      refine wpAnyH_take (i := 14) (v := .int .i64 (erS e.p e.v)) rfl (by kernel_rfl) (by kernel_rfl) (by kernel_rfl) (fun _ _ _ h => h) (Or.inl ⟨by kernel_rfl, fun w' h => by first | (go_simp; done) | (go_simp; rfl)⟩) s1 ?_
      (try simp only [Act.put, List.getElem_toArray, List.getElem_cons_succ, List.getElem_cons_zero, List.setIfInBounds_toArray, List.set_cons_zero, List.set_cons_succ])
      refine wpAnyH_take (i := 15) (v := u1) rfl (by kernel_rfl) (by kernel_rfl) (by kernel_rfl) (fun _ _ _ h => h) (Or.inl ⟨by kernel_rfl, fun w' h => by first | (go_simp; done) | (go_simp; rfl)⟩) s1 ?_
      (try simp only [Act.put, List.getElem_toArray, List.getElem_cons_succ, List.getElem_cons_zero, List.setIfInBounds_toArray, List.set_cons_zero, List.set_cons_succ])
      refine wpAnyH_take (i := 16) (v := .int .i64 (erS e.p e.v)) rfl (by kernel_rfl) (by kernel_rfl) (by kernel_rfl) (fun _ _ _ h => h) (Or.inl ⟨by kernel_rfl, fun w' h => by first | (go_simp; done) | (go_simp; rfl)⟩) s1 ?_
      (try simp only [Act.put, List.getElem_toArray, List.getElem_cons_succ, List.getElem_cons_zero, List.setIfInBounds_toArray, List.set_cons_zero, List.set_cons_succ])
      refine wpAnyH_done (by kernel_rfl) ?_ _
      clear s1
      go_wp2
      go_roundw
      case rel => exact ⟨i + 1, _, rfl, by first | rfl | exact congrArg (Value.int .i64) E1.out | exact congrArg (Value.int .i64) (by omega), ⟨by have := HI2.out; omega⟩, ⟨⟨sv3, HM.out⟩⟩, HO1, HB⟩
      case measure => have := HI2.out; exact measure_up 6 i _ (by first | rfl | exact E1.out | omega) (by omega)
    · have e2 : i < n ∧ ¬ i < 6 ∨ ¬ i < n := by omega
      have hti : L.take i = L.take 6 := by
        by_cases h : i < n
        · rw [show i = 6 by have := HI.out; omega]
        · rw [List.take_of_length_le (by have := HLN.out; omega), List.take_of_length_le (by have := HLN.out; have := HI.out; omega)]
      rw [hti] at HMS HOW
      obtain ⟨sv, hm⟩ := HMS.out
      have HM := Aside0.mk hm
      have HLT2 := Aside0.mk HLT.out
      clear hti hm HMS hi
      rcases e2 with ⟨h1, h2⟩ | h1
      · have f0 : decide ((i : Int) < (n : Int)) = true := decide_eq_true (by omega)
        have f0n : decide (i < n) = true := decide_eq_true h1
        have f1 : decide ((i : Int) < 6) = false := decide_eq_false (by omega)
        have f1n : decide (i < 6) = false := decide_eq_false h2
        clear h1 h2
        go_wp2
        go_ret2
        exact ⟨M, T, sv, u, rfl, HLT.out, HM.out, HOW.out, HB.out⟩
      · have f0 : decide ((i : Int) < (n : Int)) = false := decide_eq_false (by omega)
        have f0n : decide (i < n) = false := decide_eq_false h1
        clear h1
        go_wp2
        go_ret2
        exact ⟨M, T, sv, u, rfl, HLT.out, HM.out, HOW.out, HB.out⟩
end Go.Proofs.YthdognlkacjkhaaGreatDoor.P
