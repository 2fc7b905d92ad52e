-- PRINTED by pr.py (a driver round the kit's print program): not trusted, Lean checks it.
import Derived.Test.YthjhbhgfckaklabDoorPb
import Derived.Test.YthjhbhgfckaklabDoorStrs
import Derived.Test.YthjhbhgfckaklabDoorHeadM
import Derived.Test.YthjhbhgfckaklabDoorPD2
import Derived.Test.YthjhbhgfckaklabDoorPR2
import Derived.Test.YthjhbhgfckaklabDoorPR6
import Derived.Test.YthjhbhgfckaklabDoorPR7
namespace Go.Proofs.YthjhbhgfckaklabDoor.P
open Go.RowKit Go.Proofs.YthjhbhgfckaklabDoorW.PrintWords Go.Proofs.YthjhbhgfckaklabDoorW.PrintLast Go.Proofs.YthjhbhgfckaklabDoorW.PrintMore
attribute [local go_sem] max2_int min2_int max_two min_two max_three min_three max_four min_four   -- for this text's walks alone
set_option linter.unusedVariables false
set_option linter.unusedSimpArgs false

/-! ### abatislaw14_HeadWrites: function 4 -/
def abatislaw14_HeadWrites.j0 : Nat → Bool → ByteArray → Int → Bool → ByteArray → ByteArray → List (S26) → Option (Bool)
  | 0, _, _, _, _, _, _, _ => none
  | k + 1, x8, x9, x10, x34, x107000, x107001, x107002 => if x34 = true then (some false) else (if x8 = true then ((abatisref14_Text.f k x107000 x107001 x107002).bind fun t111 => (if x9.toList = t111.toList then ((abatislaw14_lives.f k).bind fun t112 => (some t112)) else (some false))) else (if x9.toList = ([] : List UInt8) then (if x10 = 1 then ((abatislaw14_lives.f k).bind fun t113 => (some t113)) else (some false)) else (some false)))
def abatislaw14_HeadWrites.f (k : Nat) (a0 : ByteArray) (a1 : ByteArray) (l2 : List (S26)) : Option (Bool) := (abatisref01_Few.f a0 20).bind fun t101 => ((abatisref01_Few.f a1 100).bind fun t102 => ((abatislaw14_few.f k l2 66).bind fun t103 => ((abatisref14_May.f k t101 t102 t103).bind fun t107 => ((head_Write.f t101 t102 t103).bind fun bt108 => ((head_May.f t101 t102 t103).bind fun t110 => (if (t110 != t107) = true then (abatislaw14_HeadWrites.j0 k t107 bt108.1 bt108.2 true t101 t102 t103) else (abatislaw14_HeadWrites.j0 k t107 bt108.1 bt108.2 ((bt108.2 == 0) != t107) t101 t102 t103)))))))
theorem abatislaw14_HeadWrites.mono_l : ∀ k, (∀ y0 y1 y2 y3 y4 y5 y6, LeO (abatislaw14_HeadWrites.j0 k y0 y1 y2 y3 y4 y5 y6) (abatislaw14_HeadWrites.j0 (k + 1) y0 y1 y2 y3 y4 y5 y6))
  | 0 => fun _ _ _ _ _ _ _ r h => by simp [abatislaw14_HeadWrites.j0] at h
  | k + 1 => by
    have ih0 := abatislaw14_HeadWrites.mono_l k
    · intro y0 y1 y2 y3 y4 y5 y6
      unfold abatislaw14_HeadWrites.j0
      repeat' first
      | (with_reducible exact ih0 _ _ _ _ _ _ _)
      | (with_reducible exact abatislaw14_few.mono _ _ _)
      | (with_reducible exact abatislaw14_lives.mono _)
      | (with_reducible exact abatisref14_May.mono _ _ _ _)
      | (with_reducible exact abatisref14_Text.mono _ _ _ _)
      | (with_reducible exact LeO.refl _)
      | (with_reducible exact LeO.none _)
      | (with_reducible refine LeO.ite ?_ ?_)
      | (with_reducible refine LeO.bind ?_ (fun _ => ?_))
      | exact ih0 _ _ _ _ _ _ _
      | exact abatislaw14_few.mono _ _ _
      | exact abatislaw14_lives.mono _
      | exact abatisref14_May.mono _ _ _ _
      | exact abatisref14_Text.mono _ _ _ _
      | exact LeO.none _
      | refine LeO.ite ?_ ?_
      | refine LeO.bind ?_ (fun _ => ?_)
theorem abatislaw14_HeadWrites.mono : ∀ a0 a1 a2 k, LeO (abatislaw14_HeadWrites.f k a0 a1 a2) (abatislaw14_HeadWrites.f (k + 1) a0 a1 a2) := by
  intro a0 a1 a2 k
  have ih0 := abatislaw14_HeadWrites.mono_l k
  unfold abatislaw14_HeadWrites.f
  repeat' first
      | (with_reducible exact ih0 _ _ _ _ _ _ _)
      | (with_reducible exact abatislaw14_few.mono _ _ _)
      | (with_reducible exact abatislaw14_lives.mono _)
      | (with_reducible exact abatisref14_May.mono _ _ _ _)
      | (with_reducible exact abatisref14_Text.mono _ _ _ _)
      | (with_reducible exact LeO.refl _)
      | (with_reducible exact LeO.none _)
      | (with_reducible refine LeO.ite ?_ ?_)
      | (with_reducible refine LeO.bind ?_ (fun _ => ?_))
      | exact ih0 _ _ _ _ _ _ _
      | exact abatislaw14_few.mono _ _ _
      | exact abatislaw14_lives.mono _
      | exact abatisref14_May.mono _ _ _ _
      | exact abatisref14_Text.mono _ _ _ _
      | exact LeO.none _
      | refine LeO.ite ?_ ?_
      | refine LeO.bind ?_ (fun _ => ?_)
set_option maxHeartbeats 8000000 in
set_option maxRecDepth 100000 in
theorem abatislaw14_HeadWrites.calls (k : Nat) (a0 : ByteArray) (a1 : ByteArray) (A2 : Option Addr) (c2 : Nat) (l2 : List (S26)) (r : Bool) (w : World) (hmx : MaxIs w) (hr2 : Kd.C k26 w A2 l2.length l2) (hc2 : l2.length ≤ c2) (h : abatislaw14_HeadWrites.f k a0 a1 l2 = some r) :
    Calls Tryd.prog 4 #[.string a0, .string a1, .slice A2 l2.length c2] w fun e w' => e = .returned (.bool r) ∧ Below w.heap.size w w' := by
  have hu36 := Tryd.underlying36
  have HR2 := Aside0.mk hr2
  have HC2 := Aside0.mk hc2
  clear hr2 hc2
  have HB := Aside0.mk (Below.refl w.heap.size w)
  have HMX := Aside0.mk hmx
  clear hmx
  have H : ((abatisref01_Few.f a0 20).bind fun t101 => ((abatisref01_Few.f a1 100).bind fun t102 => ((abatislaw14_few.f k l2 66).bind fun t103 => ((abatisref14_May.f k t101 t102 t103).bind fun t107 => ((head_Write.f t101 t102 t103).bind fun bt108 => ((head_May.f t101 t102 t103).bind fun t110 => (if (t110 != t107) = true then (abatislaw14_HeadWrites.j0 k t107 bt108.1 bt108.2 true t101 t102 t103) else (abatislaw14_HeadWrites.j0 k t107 bt108.1 bt108.2 ((bt108.2 == 0) != t107) t101 t102 t103)))))))) = some r := h
  clear h
  replace H := Option.bind_eq_some_iff.mp H
  obtain ⟨t101, A40, H⟩ := H
  replace H : ((abatisref01_Few.f a1 100).bind fun t102 => ((abatislaw14_few.f k l2 66).bind fun t103 => ((abatisref14_May.f k t101 t102 t103).bind fun t107 => ((head_Write.f t101 t102 t103).bind fun bt108 => ((head_May.f t101 t102 t103).bind fun t110 => (if (t110 != t107) = true then (abatislaw14_HeadWrites.j0 k t107 bt108.1 bt108.2 true t101 t102 t103) else (abatislaw14_HeadWrites.j0 k t107 bt108.1 bt108.2 ((bt108.2 == 0) != t107) t101 t102 t103))))))) = some r := H
  have A4 := Aside0.mk A40
  clear A40
  replace H := Option.bind_eq_some_iff.mp H
  obtain ⟨t102, A50, H⟩ := H
  replace H : ((abatislaw14_few.f k l2 66).bind fun t103 => ((abatisref14_May.f k t101 t102 t103).bind fun t107 => ((head_Write.f t101 t102 t103).bind fun bt108 => ((head_May.f t101 t102 t103).bind fun t110 => (if (t110 != t107) = true then (abatislaw14_HeadWrites.j0 k t107 bt108.1 bt108.2 true t101 t102 t103) else (abatislaw14_HeadWrites.j0 k t107 bt108.1 bt108.2 ((bt108.2 == 0) != t107) t101 t102 t103)))))) = some r := H
  have A5 := Aside0.mk A50
  clear A50
  replace H := Option.bind_eq_some_iff.mp H
  obtain ⟨t103, A60, H⟩ := H
  replace H : ((abatisref14_May.f k t101 t102 t103).bind fun t107 => ((head_Write.f t101 t102 t103).bind fun bt108 => ((head_May.f t101 t102 t103).bind fun t110 => (if (t110 != t107) = true then (abatislaw14_HeadWrites.j0 k t107 bt108.1 bt108.2 true t101 t102 t103) else (abatislaw14_HeadWrites.j0 k t107 bt108.1 bt108.2 ((bt108.2 == 0) != t107) t101 t102 t103))))) = some r := H
  have A6 := Aside0.mk A60
  clear A60
  replace H := Option.bind_eq_some_iff.mp H
  obtain ⟨t107, A70, H⟩ := H
  replace H : ((head_Write.f t101 t102 t103).bind fun bt108 => ((head_May.f t101 t102 t103).bind fun t110 => (if (t110 != t107) = true then (abatislaw14_HeadWrites.j0 k t107 bt108.1 bt108.2 true t101 t102 t103) else (abatislaw14_HeadWrites.j0 k t107 bt108.1 bt108.2 ((bt108.2 == 0) != t107) t101 t102 t103)))) = some r := H
  have A7 := Aside0.mk A70
  clear A70
  replace H := Option.bind_eq_some_iff.mp H
  obtain ⟨⟨t108, t109⟩, A80, H⟩ := H
  replace H : ((head_May.f t101 t102 t103).bind fun t110 => (if (t110 != t107) = true then (abatislaw14_HeadWrites.j0 k t107 t108 t109 true t101 t102 t103) else (abatislaw14_HeadWrites.j0 k t107 t108 t109 ((t109 == 0) != t107) t101 t102 t103))) = some r := H
  have A8 := Aside0.mk A80
  clear A80
  have HC9 := Aside0.mk H
  clear H
  go_enter Tryd.func4, Tryd.ntmps4
  go_upto_region 4 with (first | ((with_reducible refine gate_callee (f := 7) rfl ?_); refine goesL_ (some 12) rfl rfl Tryd.func7 (by kernel_rfl) rfl #[.string a0, .int .i64 20] rfl (by (try simp only [List.map_toArray, List.map_cons, List.map_nil]); first | done | rfl | (simp only [List.length_drop, List.length_take]; rfl)) ?_; (with_reducible refine (abatisref01_Few.calls a0 20 t101 _ A4.out).mono ?_); rintro e w' ⟨rfl, ⟨nd, rfl⟩⟩; refine ⟨_, rfl, ?_⟩) | ((with_reducible refine gate_callee (f := 7) rfl ?_); refine goesL_ (some 14) rfl rfl Tryd.func7 (by kernel_rfl) rfl #[.string a1, .int .i64 100] rfl (by (try simp only [List.map_toArray, List.map_cons, List.map_nil]); first | done | rfl | (simp only [List.length_drop, List.length_take]; rfl)) ?_; (with_reducible refine (abatisref01_Few.calls a1 100 t102 _ A5.out).mono ?_); rintro e w' ⟨rfl, ⟨nd, rfl⟩⟩; refine ⟨_, rfl, ?_⟩) | ((with_reducible refine gate_callee (f := 14) rfl ?_); refine goesL_ (some 16) rfl rfl Tryd.func14 (by kernel_rfl) rfl #[.slice A2 l2.length c2, .int .i64 66] rfl (by (try simp only [List.map_toArray, List.map_cons, List.map_nil]); first | done | rfl | (simp only [List.length_drop, List.length_take]; rfl)) ?_; (with_reducible refine (abatislaw14_few.calls k _ _ l2 66 t103 _ ?side1 ?side2 A6.out).mono ?_); (case side1 => repeat (first | exact HR2.out | (with_reducible refine Kd.C_alloc ?_ _) | (with_reducible refine Kd.C_drewN ?_ _) | (with_reducible refine Kd.C_drew ?_))); (case side2 => exact HC2.out); rintro e w10 ⟨v104, rfl, ho0, hb⟩; refine ⟨_, rfl, ?_⟩; have n0_ := Aside0.mk (Kd.R_lower ho0 (below_size (by repeat (first | (with_reducible first | exact HB.out | apply below_alloc | apply pw_below_drewN | apply below_drew1) | exact HB.out)))); have n1_ := Aside0.mk (below_step (by repeat (first | (with_reducible first | exact HB.out | apply below_alloc | apply pw_below_drewN | apply below_drew1) | exact HB.out)) hb); clear HB; have HO105 := n0_; have HB := n1_; clear n0_ n1_; (try clear hb); (try clear hb2); (try clear hk); (try clear hi); (try clear ho0); obtain ⟨Ao11, co11, eo11⟩ := Kd.R_slice HO105.out; subst eo11) | ((with_reducible refine gate_dst (N := 7) rfl ?_); refine box_event ?hg (N := 7) ?hd (cs := #[.string (⟨#[]⟩ : ByteArray), .string (⟨#[]⟩ : ByteArray), .slice none 0 0]) (t := 36) ?hr ?_; (case hd => rfl); (case hg => rfl); (case hr => first | (go_simp; done) | (go_simp; rfl)); intro gb106 hg w12 hbox hb; have n0_ := Aside0.mk (Kd.R_below (by (with_reducible repeat (first | apply Kd.R_alloc | apply Kd.R_drewN | apply Kd.R_drew)); exact HO105.out) hb); have n1_ := Aside0.mk (below_step (by repeat (first | (with_reducible first | exact HB.out | apply below_alloc | apply pw_below_drewN | apply below_drew1) | exact HB.out)) hb); have n2_ := Aside0.mk (hbox); have n3_ := Aside0.mk ((by rw [hg]; exact (below_size (by repeat (first | (with_reducible first | exact HB.out | apply below_alloc | apply pw_below_drewN | apply below_drew1) | exact HB.out))) : w.heap.size ≤ gb106)); have n4_ := Aside0.mk ((by rw [hg]; exact (below_size (by repeat (first | (with_reducible first | exact HB.out | apply below_alloc | apply pw_below_drewN | apply below_drew1) | exact HB.out))) : w.heap.size ≤ gb106)); clear HO105; clear HB; have HO105 := n0_; have HB := n1_; have BK106 := n2_; have GW106 := n3_; have GE106 := n4_; clear n0_ n1_ n2_ n3_ n4_; clear hb hbox hg; have hcz13_0 : w12.cell? ⟨gb106, 0, none⟩ = some (.string (⟨#[]⟩ : ByteArray)) := (blk_cell BK106.out 0).trans rfl; have hcz13_1 : w12.cell? ⟨gb106, 1, none⟩ = some (.string (⟨#[]⟩ : ByteArray)) := (blk_cell BK106.out 1).trans rfl; have hcz13_2 : w12.cell? ⟨gb106, 2, none⟩ = some (.slice none 0 0) := (blk_cell BK106.out 2).trans rfl; have hfz13_0 := blk_frozen BK106.out 0; have hfz13_1 := blk_frozen BK106.out 1; have hfz13_2 := blk_frozen BK106.out 2) | ((with_reducible refine gate_callee (f := 15) rfl ?_); refine goesL_ (some 19) rfl rfl Tryd.func15 (by kernel_rfl) rfl #[.agg #[.string t101, .string t102, .slice Ao11 t103.length co11]] rfl (by (try simp only [List.map_toArray, List.map_cons, List.map_nil]); first | done | rfl | (simp only [List.length_drop, List.length_take]; rfl)) ?_; (with_reducible refine (abatisref14_May.calls k t101 t102 _ _ t103 t107 _ ?side1 ?side2 A7.out).mono ?_); (case side1 => refine (Kd.R_reads' (e := 26) (base := w.heap.size) (ok := fun k_ => True) (n := t103.length) (c := co11) ?_).2.2; exact (by (with_reducible repeat (first | apply Kd.R_alloc | apply Kd.R_drewN | apply Kd.R_drew)); exact (Kd.R_mono (Kd.R_far (p := ⟨gb106, 2, none⟩) (Kd.R_far (p := ⟨gb106, 1, none⟩) (Kd.R_far (p := ⟨gb106, 0, none⟩) (Kd.R_types HO105.out BK106.out (by decide)) (fun _ hk => hk.2) (.string t101)) (fun _ hk => hk.2) (.string t102)) (fun _ hk => hk.2) (.slice Ao11 t103.length co11)) (fun _ h_ => h_.1)))); (case side2 => exact (Kd.R_reads' HO105.out).2.1); rintro e w14 ⟨rfl, hb⟩; refine ⟨_, rfl, ?_⟩; have n0_ := Aside0.mk (Kd.R_below (by (with_reducible repeat (first | apply Kd.R_alloc | apply Kd.R_drewN | apply Kd.R_drew)); exact (Kd.R_mono (Kd.R_far (p := ⟨gb106, 2, none⟩) (Kd.R_far (p := ⟨gb106, 1, none⟩) (Kd.R_far (p := ⟨gb106, 0, none⟩) (Kd.R_types HO105.out BK106.out (by decide)) (fun _ hk => hk.2) (.string t101)) (fun _ hk => hk.2) (.string t102)) (fun _ hk => hk.2) (.slice Ao11 t103.length co11)) (fun _ h_ => h_.1))) hb); have n1_ := Aside0.mk (blk_below (g := gb106) (o := .cells #[.string t101, .string t102, .slice Ao11 t103.length co11] 36 (0, 0)) (by (with_reducible repeat (first | refine blk_drewN ?_ _ | refine blk_drew ?_ | refine blk_alloc ?_ _)); refine blk_put (cs := #[.string t101, .string t102, .slice none 0 0]) ?_ 2 _ rfl; (with_reducible repeat (first | refine blk_drewN ?_ _ | refine blk_drew ?_ | refine blk_alloc ?_ _)); refine blk_put (cs := #[.string t101, .string (⟨#[]⟩ : ByteArray), .slice none 0 0]) ?_ 1 _ rfl; (with_reducible repeat (first | refine blk_drewN ?_ _ | refine blk_drew ?_ | refine blk_alloc ?_ _)); refine blk_put (cs := #[.string (⟨#[]⟩ : ByteArray), .string (⟨#[]⟩ : ByteArray), .slice none 0 0]) ?_ 0 _ rfl; (with_reducible repeat (first | refine blk_drewN ?_ _ | refine blk_drew ?_ | refine blk_alloc ?_ _)); exact BK106.out) hb); have n2_ := Aside0.mk (below_step (by repeat (first | (with_reducible first | exact HB.out | apply below_alloc | apply pw_below_drewN | apply below_drew1 | refine below_set ?_ GE106.out) | exact HB.out)) hb); clear HO105; clear BK106; clear HB; have HO105 := n0_; have BK106 := n1_; have HB := n2_; clear n0_ n1_ n2_; (try clear hb); (try clear hb2); (try clear hk); (try clear hi); have hcz15_0 : w14.cell? ⟨gb106, 0, none⟩ = some (.string t101) := (blk_cell BK106.out 0).trans rfl; have hcz15_1 : w14.cell? ⟨gb106, 1, none⟩ = some (.string t102) := (blk_cell BK106.out 1).trans rfl; have hcz15_2 : w14.cell? ⟨gb106, 2, none⟩ = some (.slice Ao11 t103.length co11) := (blk_cell BK106.out 2).trans rfl; have hfz15_0 := blk_frozen BK106.out 0; have hfz15_1 := blk_frozen BK106.out 1; have hfz15_2 := blk_frozen BK106.out 2) | ((with_reducible refine gate_callee (f := 16) rfl ?_); refine goesL_ (some 22) rfl rfl Tryd.func16 (by kernel_rfl) rfl #[.agg #[.string t101, .string t102, .slice Ao11 t103.length co11]] rfl (by (try simp only [List.map_toArray, List.map_cons, List.map_nil]); first | done | rfl | (simp only [List.length_drop, List.length_take]; rfl)) ?_; (with_reducible refine (head_Write.calls t101 t102 _ _ t103 t108 t109 _ ?side1 ?side2 A8.out).mono ?_); (case side1 => repeat (first | exact (Kd.R_reads' HO105.out).2.2 | (with_reducible refine Kd.C_alloc ?_ _) | (with_reducible refine Kd.C_drewN ?_ _) | (with_reducible refine Kd.C_drew ?_))); (case side2 => exact (Kd.R_reads' HO105.out).2.1); rintro e w16 ⟨rfl, hb⟩; refine ⟨_, rfl, ?_⟩; have n0_ := Aside0.mk (Kd.R_below (by (with_reducible repeat (first | apply Kd.R_alloc | apply Kd.R_drewN | apply Kd.R_drew)); exact HO105.out) hb); have n1_ := Aside0.mk (blk_below (g := gb106) (o := .cells #[.string t101, .string t102, .slice Ao11 t103.length co11] 36 (0, 0)) (by (with_reducible repeat (first | refine blk_drewN ?_ _ | refine blk_drew ?_ | refine blk_alloc ?_ _)); exact BK106.out) hb); have n2_ := Aside0.mk (below_step (by repeat (first | (with_reducible first | exact HB.out | apply below_alloc | apply pw_below_drewN | apply below_drew1 | refine below_set ?_ GE106.out) | exact HB.out)) hb); clear HO105; clear BK106; clear HB; have HO105 := n0_; have BK106 := n1_; have HB := n2_; clear n0_ n1_ n2_; (try clear hb); (try clear hb2); (try clear hk); (try clear hi)))
  (try simp only [Act.put, List.setIfInBounds_toArray, List.set_cons_zero, List.set_cons_succ])
  go_cut [34] (fun v34 wc => ∃ (kq : Nat) (x34_8 : Bool), v34 = .bool x34_8 ∧ Aside0 (abatislaw14_HeadWrites.j0 kq t107 t108 t109 x34_8 t101 t102 t103 = some r) ∧ Aside0 (kq ≤ k) ∧ Aside0 (Kd.R k26 26 wc w.heap.size (fun _ => True) (.slice Ao11 t103.length co11) t103) ∧ Aside0 (wc.heap[gb106]? = some (.cells #[.string t101, .string t102, (.slice Ao11 t103.length co11)] 36 (0, 0))) ∧ Aside0 (Below w.heap.size w wc))
  case first =>
    have H := HC9.out
    clear HC9
    replace H := Option.bind_eq_some_iff.mp H
    obtain ⟨t110, A170, H⟩ := H
    replace H : (if (t110 != t107) = true then (abatislaw14_HeadWrites.j0 k t107 t108 t109 true t101 t102 t103) else (abatislaw14_HeadWrites.j0 k t107 t108 t109 ((t109 == 0) != t107) t101 t102 t103)) = some r := H
    have A17 := Aside0.mk A170
    clear A170
    by_cases c18 : (t110 != t107) = true
    · rw [if_pos c18] at H
      have c18b0 : (t110 != t107) = true := c18
      (try (have c18b1 : decide (t110 = t107) = false := by simpa using c18))
      (try (have c18b2 : (t110 == t107) = false := by simpa using c18))
      (try (have c18b3 : ¬ (t110 = t107) := by simpa using c18))
      clear c18
      (first | rw [c18b0] | (simp only [i64_w, i32_w]; rw [c18b0]) | skip)
      have H' := Aside0.mk H
      clear H
      have hcz19_0 : w16.cell? ⟨gb106, 0, none⟩ = some (.string t101) := (blk_cell BK106.out 0).trans rfl
      have hcz19_1 : w16.cell? ⟨gb106, 1, none⟩ = some (.string t102) := (blk_cell BK106.out 1).trans rfl
      have hcz19_2 : w16.cell? ⟨gb106, 2, none⟩ = some (.slice Ao11 t103.length co11) := (blk_cell BK106.out 2).trans rfl
      have hfz19_0 := blk_frozen BK106.out 0
      have hfz19_1 := blk_frozen BK106.out 1
      have hfz19_2 := blk_frozen BK106.out 2
      go_wp2_with (first | ((with_reducible refine gate_callee (f := 17) rfl ?_); refine goesL_ (some 26) rfl rfl Tryd.func17 (by kernel_rfl) rfl #[.agg #[.string t101, .string t102, .slice Ao11 t103.length co11]] rfl (by (try simp only [List.map_toArray, List.map_cons, List.map_nil]); first | done | rfl | (simp only [List.length_drop, List.length_take]; rfl)) ?_; (with_reducible refine (head_May.calls t101 t102 _ _ t103 t110 _ ?side1 ?side2 A17.out).mono ?_); (case side1 => repeat (first | exact (Kd.R_reads' HO105.out).2.2 | (with_reducible refine Kd.C_alloc ?_ _) | (with_reducible refine Kd.C_drewN ?_ _) | (with_reducible refine Kd.C_drew ?_))); (case side2 => exact (Kd.R_reads' HO105.out).2.1); rintro e w20 ⟨rfl, hb⟩; refine ⟨_, rfl, ?_⟩; have n0_ := Aside0.mk (Kd.R_below (by (with_reducible repeat (first | apply Kd.R_alloc | apply Kd.R_drewN | apply Kd.R_drew)); exact HO105.out) hb); have n1_ := Aside0.mk (blk_below (g := gb106) (o := .cells #[.string t101, .string t102, .slice Ao11 t103.length co11] 36 (0, 0)) (by (with_reducible repeat (first | refine blk_drewN ?_ _ | refine blk_drew ?_ | refine blk_alloc ?_ _)); exact BK106.out) hb); have n2_ := Aside0.mk (below_step (by repeat (first | (with_reducible first | exact HB.out | apply below_alloc | apply pw_below_drewN | apply below_drew1 | refine below_set ?_ GE106.out) | exact HB.out)) hb); clear HO105; clear BK106; clear HB; have HO105 := n0_; have BK106 := n1_; have HB := n2_; clear n0_ n1_ n2_; (try clear hb); (try clear hb2); (try clear hk); (try clear hi)))
      go_meet
      case rel => exact ⟨_, (true), (by first | rfl | (simp; done) | (simp [*]; done) | (simp [bne]; done) | (simp [bne, *]; done)), H', ⟨by first | omega | exact Nat.le_refl _⟩, ⟨by (with_reducible repeat (first | apply Kd.R_alloc | apply Kd.R_drewN | apply Kd.R_drew)); exact HO105.out⟩, ⟨by (with_reducible repeat (first | refine blk_drewN ?_ _ | refine blk_drew ?_ | refine blk_alloc ?_ _)); exact BK106.out⟩, ⟨by repeat (first | (with_reducible first | exact HB.out | apply below_alloc | apply pw_below_drewN | apply below_drew1 | refine below_set ?_ GE106.out) | exact HB.out)⟩⟩
    · rw [if_neg c18] at H
      have c18b0 : (t110 != t107) = false := by simpa using c18
      (try (have c18b1 : decide (t110 = t107) = true := by simpa using c18))
      (try (have c18b2 : (t110 == t107) = true := by simpa using c18))
      clear c18
      (first | rw [c18b0] | (simp only [i64_w, i32_w]; rw [c18b0]) | skip)
      have H' := Aside0.mk H
      clear H
      have hcz21_0 : w16.cell? ⟨gb106, 0, none⟩ = some (.string t101) := (blk_cell BK106.out 0).trans rfl
      have hcz21_1 : w16.cell? ⟨gb106, 1, none⟩ = some (.string t102) := (blk_cell BK106.out 1).trans rfl
      have hcz21_2 : w16.cell? ⟨gb106, 2, none⟩ = some (.slice Ao11 t103.length co11) := (blk_cell BK106.out 2).trans rfl
      have hfz21_0 := blk_frozen BK106.out 0
      have hfz21_1 := blk_frozen BK106.out 1
      have hfz21_2 := blk_frozen BK106.out 2
      go_wp2_with (first | ((with_reducible refine gate_callee (f := 17) rfl ?_); refine goesL_ (some 26) rfl rfl Tryd.func17 (by kernel_rfl) rfl #[.agg #[.string t101, .string t102, .slice Ao11 t103.length co11]] rfl (by (try simp only [List.map_toArray, List.map_cons, List.map_nil]); first | done | rfl | (simp only [List.length_drop, List.length_take]; rfl)) ?_; (with_reducible refine (head_May.calls t101 t102 _ _ t103 t110 _ ?side1 ?side2 A17.out).mono ?_); (case side1 => repeat (first | exact (Kd.R_reads' HO105.out).2.2 | (with_reducible refine Kd.C_alloc ?_ _) | (with_reducible refine Kd.C_drewN ?_ _) | (with_reducible refine Kd.C_drew ?_))); (case side2 => exact (Kd.R_reads' HO105.out).2.1); rintro e w22 ⟨rfl, hb⟩; refine ⟨_, rfl, ?_⟩; have n0_ := Aside0.mk (Kd.R_below (by (with_reducible repeat (first | apply Kd.R_alloc | apply Kd.R_drewN | apply Kd.R_drew)); exact HO105.out) hb); have n1_ := Aside0.mk (blk_below (g := gb106) (o := .cells #[.string t101, .string t102, .slice Ao11 t103.length co11] 36 (0, 0)) (by (with_reducible repeat (first | refine blk_drewN ?_ _ | refine blk_drew ?_ | refine blk_alloc ?_ _)); exact BK106.out) hb); have n2_ := Aside0.mk (below_step (by repeat (first | (with_reducible first | exact HB.out | apply below_alloc | apply pw_below_drewN | apply below_drew1 | refine below_set ?_ GE106.out) | exact HB.out)) hb); clear HO105; clear BK106; clear HB; have HO105 := n0_; have BK106 := n1_; have HB := n2_; clear n0_ n1_ n2_; (try clear hb); (try clear hb2); (try clear hk); (try clear hi)))
      go_meet
      case rel => exact ⟨_, (((t109 == 0) != t107)), (by first | rfl | (simp; done) | (simp [*]; done) | (simp [bne]; done) | (simp [bne, *]; done)), H', ⟨by first | omega | exact Nat.le_refl _⟩, ⟨by (with_reducible repeat (first | apply Kd.R_alloc | apply Kd.R_drewN | apply Kd.R_drew)); exact HO105.out⟩, ⟨by (with_reducible repeat (first | refine blk_drewN ?_ _ | refine blk_drew ?_ | refine blk_alloc ?_ _)); exact BK106.out⟩, ⟨by repeat (first | (with_reducible first | exact HB.out | apply below_alloc | apply pw_below_drewN | apply below_drew1 | refine below_set ?_ GE106.out) | exact HB.out)⟩⟩
  case rest =>
    clear HC9
    try clear c1
    try clear c2
    try clear p2
    try clear c4
    try clear c7
    try clear c14
    try clear c15
    try clear c16
    try clear c17
    try clear c18
    try clear c18b0
    try clear c18b1
    try clear c18b2
    try clear hcz13_0
    try clear hcz13_1
    try clear hcz13_2
    try clear hcz15_0
    try clear hcz15_1
    try clear hcz15_2
    try clear hcz19_0
    try clear hcz19_1
    try clear hcz19_2
    try clear hcz21_0
    try clear hcz21_1
    try clear hcz21_2
    try clear hfz13_0
    try clear hfz13_1
    try clear hfz13_2
    try clear hfz15_0
    try clear hfz15_1
    try clear hfz15_2
    try clear hfz19_0
    try clear hfz19_1
    try clear hfz19_2
    try clear hfz21_0
    try clear hfz21_1
    try clear hfz21_2
    obtain ⟨kq, x34_8, rfl, HA, HJ8, HO_107002, BK106, HB⟩ := hcut
    cases kq with
    | zero => exact absurd HA.out (by simp [abatislaw14_HeadWrites.j0])
    | succ kj8 =>
      have H := HA.out
      clear HA
      simp only [abatislaw14_HeadWrites.j0] at H
      by_cases c23 : x34_8 = true
      · subst c23
        have H1 : (some false) = some r := by rw [if_pos rfl] at H; exact H
        clear H
        have H := H1
        clear H1
        obtain rfl := Option.some.inj H
        go_wp2
        go_ret
        exact ⟨by first | rfl | (simp [errW_none, errW_some] <;> rfl) | (simp [*, errW_none, errW_some] <;> rfl), by repeat (first | (with_reducible first | exact HB.out | apply below_alloc | apply pw_below_drewN | apply below_drew1 | refine below_set ?_ GE106.out) | exact HB.out)⟩
      · replace c23 := Bool.eq_false_iff.mpr c23
        subst c23
        have H1 : (if t107 = true then ((abatisref14_Text.f kj8 t101 t102 t103).bind fun t111 => (if t108.toList = t111.toList then ((abatislaw14_lives.f kj8).bind fun t112 => (some t112)) else (some false))) else (if t108.toList = ([] : List UInt8) then (if t109 = 1 then ((abatislaw14_lives.f kj8).bind fun t113 => (some t113)) else (some false)) else (some false))) = some r := by rw [if_neg (show ¬ (false = true) by decide)] at H; exact H
        clear H
        have H := H1
        clear H1
        by_cases c24 : t107 = true
        · subst c24
          have H1 : ((abatisref14_Text.f kj8 t101 t102 t103).bind fun t111 => (if t108.toList = t111.toList then ((abatislaw14_lives.f kj8).bind fun t112 => (some t112)) else (some false))) = some r := by rw [if_pos rfl] at H; exact H
          clear H
          have H := H1
          clear H1
          replace H := Option.bind_eq_some_iff.mp H
          obtain ⟨t111, A250, H⟩ := H
          replace H : (if t108.toList = t111.toList then ((abatislaw14_lives.f kj8).bind fun t112 => (some t112)) else (some false)) = some r := H
          have A25 := Aside0.mk A250
          clear A250
          by_cases c26 : t108.toList = t111.toList
          · rw [if_pos c26] at H
            have c26b0 : (t108.toList == t111.toList) = true := beq_iff_eq.mpr c26
            have c26b1 : (t108.toList != t111.toList) = false := bne_eq_false_iff_eq.mpr c26
            clear c26
            replace H := Option.bind_eq_some_iff.mp H
            obtain ⟨t112, A270, H⟩ := H
            replace H : (some t112) = some r := H
            have A27 := Aside0.mk A270
            clear A270
            obtain rfl := Option.some.inj H
            have hcz28_0 : wc.cell? ⟨gb106, 0, none⟩ = some (.string t101) := (blk_cell BK106.out 0).trans rfl
            have hcz28_1 : wc.cell? ⟨gb106, 1, none⟩ = some (.string t102) := (blk_cell BK106.out 1).trans rfl
            have hcz28_2 : wc.cell? ⟨gb106, 2, none⟩ = some (.slice Ao11 t103.length co11) := (blk_cell BK106.out 2).trans rfl
            have hfz28_0 := blk_frozen BK106.out 0
            have hfz28_1 := blk_frozen BK106.out 1
            have hfz28_2 := blk_frozen BK106.out 2
            go_wp2_with (first | ((with_reducible refine gate_callee (f := 18) rfl ?_); refine goesL_ (some 48) rfl rfl Tryd.func18 (by kernel_rfl) rfl #[.agg #[.string t101, .string t102, .slice Ao11 t103.length co11]] rfl (by (try simp only [List.map_toArray, List.map_cons, List.map_nil]); first | done | rfl | (simp only [List.length_drop, List.length_take]; rfl)) ?_; (with_reducible refine (abatisref14_Text.calls kj8 t101 t102 _ _ t103 t111 _ ?side1 ?side2 A25.out).mono ?_); (case side1 => repeat (first | exact (Kd.R_reads' HO_107002.out).2.2 | (with_reducible refine Kd.C_alloc ?_ _) | (with_reducible refine Kd.C_drewN ?_ _) | (with_reducible refine Kd.C_drew ?_))); (case side2 => exact (Kd.R_reads' HO_107002.out).2.1); rintro e w29 ⟨rfl, hb⟩; refine ⟨_, rfl, ?_⟩; have n0_ := Aside0.mk (Kd.R_below (by (with_reducible repeat (first | apply Kd.R_alloc | apply Kd.R_drewN | apply Kd.R_drew)); exact HO_107002.out) hb); have n1_ := Aside0.mk (blk_below (g := gb106) (o := .cells #[.string t101, .string t102, .slice Ao11 t103.length co11] 36 (0, 0)) (by (with_reducible repeat (first | refine blk_drewN ?_ _ | refine blk_drew ?_ | refine blk_alloc ?_ _)); exact BK106.out) hb); have n2_ := Aside0.mk (below_step (by repeat (first | (with_reducible first | exact HB.out | apply below_alloc | apply pw_below_drewN | apply below_drew1 | refine below_set ?_ GE106.out) | exact HB.out)) hb); clear HO_107002; clear BK106; clear HB; have HO_107002 := n0_; have BK106 := n1_; have HB := n2_; clear n0_ n1_ n2_; (try clear hb); (try clear hb2); (try clear hk); (try clear hi)) | (go_at_call 13; (with_reducible refine (abatislaw14_lives.calls kj8  t112 _ (maxis_below HMX.out (by repeat (first | (with_reducible first | exact HB.out | apply below_alloc | apply pw_below_drewN | apply below_drew1) | exact HB.out))) A27.out).mono ?_); rintro e w30 ⟨rfl, hb⟩; have n0_ := Aside0.mk (Kd.R_below (by (with_reducible repeat (first | apply Kd.R_alloc | apply Kd.R_drewN | apply Kd.R_drew)); exact HO_107002.out) hb); have n1_ := Aside0.mk (blk_below (g := gb106) (o := .cells #[.string t101, .string t102, .slice Ao11 t103.length co11] 36 (0, 0)) (by (with_reducible repeat (first | refine blk_drewN ?_ _ | refine blk_drew ?_ | refine blk_alloc ?_ _)); exact BK106.out) hb); have n2_ := Aside0.mk (below_step (by repeat (first | (with_reducible first | exact HB.out | apply below_alloc | apply pw_below_drewN | apply below_drew1 | refine below_set ?_ GE106.out) | exact HB.out)) hb); clear HO_107002; clear BK106; clear HB; have HO_107002 := n0_; have BK106 := n1_; have HB := n2_; clear n0_ n1_ n2_; (try clear hb); (try clear hb2); (try clear hk); (try clear hi)))
            go_ret
            exact ⟨by first | rfl | (simp [errW_none, errW_some] <;> rfl) | (simp [*, errW_none, errW_some] <;> rfl), by repeat (first | (with_reducible first | exact HB.out | apply below_alloc | apply pw_below_drewN | apply below_drew1 | refine below_set ?_ GE106.out) | exact HB.out)⟩
          · rw [if_neg c26] at H
            have c26b0 : (t108.toList == t111.toList) = false := beq_eq_false_iff_ne.mpr c26
            have c26b1 : (t108.toList != t111.toList) = true := bne_iff_ne.mpr c26
            obtain rfl := Option.some.inj H
            have hcz31_0 : wc.cell? ⟨gb106, 0, none⟩ = some (.string t101) := (blk_cell BK106.out 0).trans rfl
            have hcz31_1 : wc.cell? ⟨gb106, 1, none⟩ = some (.string t102) := (blk_cell BK106.out 1).trans rfl
            have hcz31_2 : wc.cell? ⟨gb106, 2, none⟩ = some (.slice Ao11 t103.length co11) := (blk_cell BK106.out 2).trans rfl
            have hfz31_0 := blk_frozen BK106.out 0
            have hfz31_1 := blk_frozen BK106.out 1
            have hfz31_2 := blk_frozen BK106.out 2
            go_wp2_with (first | ((with_reducible refine gate_callee (f := 18) rfl ?_); refine goesL_ (some 48) rfl rfl Tryd.func18 (by kernel_rfl) rfl #[.agg #[.string t101, .string t102, .slice Ao11 t103.length co11]] rfl (by (try simp only [List.map_toArray, List.map_cons, List.map_nil]); first | done | rfl | (simp only [List.length_drop, List.length_take]; rfl)) ?_; (with_reducible refine (abatisref14_Text.calls kj8 t101 t102 _ _ t103 t111 _ ?side1 ?side2 A25.out).mono ?_); (case side1 => repeat (first | exact (Kd.R_reads' HO_107002.out).2.2 | (with_reducible refine Kd.C_alloc ?_ _) | (with_reducible refine Kd.C_drewN ?_ _) | (with_reducible refine Kd.C_drew ?_))); (case side2 => exact (Kd.R_reads' HO_107002.out).2.1); rintro e w32 ⟨rfl, hb⟩; refine ⟨_, rfl, ?_⟩; have n0_ := Aside0.mk (Kd.R_below (by (with_reducible repeat (first | apply Kd.R_alloc | apply Kd.R_drewN | apply Kd.R_drew)); exact HO_107002.out) hb); have n1_ := Aside0.mk (blk_below (g := gb106) (o := .cells #[.string t101, .string t102, .slice Ao11 t103.length co11] 36 (0, 0)) (by (with_reducible repeat (first | refine blk_drewN ?_ _ | refine blk_drew ?_ | refine blk_alloc ?_ _)); exact BK106.out) hb); have n2_ := Aside0.mk (below_step (by repeat (first | (with_reducible first | exact HB.out | apply below_alloc | apply pw_below_drewN | apply below_drew1 | refine below_set ?_ GE106.out) | exact HB.out)) hb); clear HO_107002; clear BK106; clear HB; have HO_107002 := n0_; have BK106 := n1_; have HB := n2_; clear n0_ n1_ n2_; (try clear hb); (try clear hb2); (try clear hk); (try clear hi)))
            go_ret
            exact ⟨by first | rfl | (simp [errW_none, errW_some] <;> rfl) | (simp [*, errW_none, errW_some] <;> rfl), by repeat (first | (with_reducible first | exact HB.out | apply below_alloc | apply pw_below_drewN | apply below_drew1 | refine below_set ?_ GE106.out) | exact HB.out)⟩
        · replace c24 := Bool.eq_false_iff.mpr c24
          subst c24
          have H1 : (if t108.toList = ([] : List UInt8) then (if t109 = 1 then ((abatislaw14_lives.f kj8).bind fun t113 => (some t113)) else (some false)) else (some false)) = some r := by rw [if_neg (show ¬ (false = true) by decide)] at H; exact H
          clear H
          have H := H1
          clear H1
          by_cases c33 : t108.toList = ([] : List UInt8)
          · rw [if_pos c33] at H
            have c33b0 : (t108.toList == ([] : List UInt8)) = true := beq_iff_eq.mpr c33
            have c33b1 : (t108.toList != ([] : List UInt8)) = false := bne_eq_false_iff_eq.mpr c33
            clear c33
            by_cases c34 : t109 = 1
            · rw [if_pos c34] at H
              have c34b0 : (t109 == 1) = true := beq_iff_eq.mpr c34
              have c34b1 : (t109 != 1) = false := bne_eq_false_iff_eq.mpr c34
              clear c34
              replace H := Option.bind_eq_some_iff.mp H
              obtain ⟨t113, A350, H⟩ := H
              replace H : (some t113) = some r := H
              have A35 := Aside0.mk A350
              clear A350
              obtain rfl := Option.some.inj H
              go_wp2_with (first | (go_at_call 13; (with_reducible refine (abatislaw14_lives.calls kj8  t113 _ (maxis_below HMX.out (by repeat (first | (with_reducible first | exact HB.out | apply below_alloc | apply pw_below_drewN | apply below_drew1) | exact HB.out))) A35.out).mono ?_); rintro e w36 ⟨rfl, hb⟩; have n0_ := Aside0.mk (Kd.R_below (by (with_reducible repeat (first | apply Kd.R_alloc | apply Kd.R_drewN | apply Kd.R_drew)); exact HO_107002.out) hb); have n1_ := Aside0.mk (blk_below (g := gb106) (o := .cells #[.string t101, .string t102, .slice Ao11 t103.length co11] 36 (0, 0)) (by (with_reducible repeat (first | refine blk_drewN ?_ _ | refine blk_drew ?_ | refine blk_alloc ?_ _)); exact BK106.out) hb); have n2_ := Aside0.mk (below_step (by repeat (first | (with_reducible first | exact HB.out | apply below_alloc | apply pw_below_drewN | apply below_drew1 | refine below_set ?_ GE106.out) | exact HB.out)) hb); clear HO_107002; clear BK106; clear HB; have HO_107002 := n0_; have BK106 := n1_; have HB := n2_; clear n0_ n1_ n2_; (try clear hb); (try clear hb2); (try clear hk); (try clear hi)))
              go_ret
              exact ⟨by first | rfl | (simp [errW_none, errW_some] <;> rfl) | (simp [*, errW_none, errW_some] <;> rfl), by repeat (first | (with_reducible first | exact HB.out | apply below_alloc | apply pw_below_drewN | apply below_drew1 | refine below_set ?_ GE106.out) | exact HB.out)⟩
            · rw [if_neg c34] at H
              have c34b0 : (t109 == 1) = false := beq_eq_false_iff_ne.mpr c34
              have c34b1 : (t109 != 1) = true := bne_iff_ne.mpr c34
              obtain rfl := Option.some.inj H
              go_wp2
              go_ret
              exact ⟨by first | rfl | (simp [errW_none, errW_some] <;> rfl) | (simp [*, errW_none, errW_some] <;> rfl), by repeat (first | (with_reducible first | exact HB.out | apply below_alloc | apply pw_below_drewN | apply below_drew1 | refine below_set ?_ GE106.out) | exact HB.out)⟩
          · rw [if_neg c33] at H
            have c33b0 : (t108.toList == ([] : List UInt8)) = false := beq_eq_false_iff_ne.mpr c33
            have c33b1 : (t108.toList != ([] : List UInt8)) = true := bne_iff_ne.mpr c33
            obtain rfl := Option.some.inj H
            go_wp2
            go_ret
            exact ⟨by first | rfl | (simp [errW_none, errW_some] <;> rfl) | (simp [*, errW_none, errW_some] <;> rfl), by repeat (first | (with_reducible first | exact HB.out | apply below_alloc | apply pw_below_drewN | apply below_drew1 | refine below_set ?_ GE106.out) | exact HB.out)⟩

/-- THE ONE PURE STATEMENT of abatislaw14_HeadWrites. -/
def abatislaw14_HeadWrites.Pure : Prop := ∀ (a0 : ByteArray) (a1 : ByteArray) (l2 : List (S26)), a0.size ≤ 140737488351232 → a1.size ≤ 140737488351232 → (l2.length ≤ 9223372036854775807 ∧ ∀ x_ ∈ l2, (x_.f0.size ≤ 9223372036854775807 ∧ x_.f1.size ≤ 9223372036854775807)) → ∃ k, abatislaw14_HeadWrites.f k a0 a1 l2 = some true
-- EXT abatis/abatislaw14.HeadWrites {"rounds": 1, "making": 1, "need": 1}

end Go.Proofs.YthjhbhgfckaklabDoor.P
