-- PRINTED by pr.py (a driver round the kit's print program): not trusted, Lean checks it.
import Derived.Test.YthjhbhgfckaklabDoorPb
import Derived.Test.YthjhbhgfckaklabDoorStrs
import Derived.Test.YthjhbhgfckaklabDoorHeadM
import Derived.Test.YthjhbhgfckaklabDoorPD2
import Derived.Test.YthjhbhgfckaklabDoorPR2
import Derived.Test.YthjhbhgfckaklabDoorPR5
import Derived.Test.YthjhbhgfckaklabDoorPR7
namespace Go.Proofs.YthjhbhgfckaklabDoor.P
open Go.RowKit Go.Proofs.YthjhbhgfckaklabDoorW.PrintWords Go.Proofs.YthjhbhgfckaklabDoorW.PrintLast Go.Proofs.YthjhbhgfckaklabDoorW.PrintMore
attribute [local go_sem] max2_int min2_int max_two min_two max_three min_three max_four min_four   -- for this text's walks alone
set_option linter.unusedVariables false
set_option linter.unusedSimpArgs false

/-! ### abatislaw14_HeadSets: function 5 -/
def abatislaw14_HeadSets.j0 : Nat → List (S26) → ByteArray → ByteArray → List (S26) → List (S26) → List ByteArray → Bool → Option (Bool)
  | 0, _, _, _, _, _, _, _ => none
  | k + 1, x0, x1, x2, x7, x8, x9, x54 => if x54 = true then (some false) else (if 0 < (x9.length : Int) then (if (rdOf ByteArray.empty x9 0).toList = x2.toList then ((abatisref14_Drop.f k x0 x1).bind fun t121 => ((abatisref14_Same.f k x8 t121).bind fun t124 => (if t124 = true then ((head_Set.f x7 x1 x2).bind fun t125 => ((abatisref14_Same.f k t125 x7).bind fun t128 => (if t128 = true then ((abatislaw14_lives.f k).bind fun t129 => (some t129)) else (some false)))) else (some false)))) else (some false)) else (none))
def abatislaw14_HeadSets.f (k : Nat) (l0 : List (S26)) (a1 : ByteArray) (a2 : ByteArray) : Option (Bool) := (abatislaw14_few.f k l0 10).bind fun t101 => ((abatisref01_Few.f a1 20).bind fun t104 => ((abatisref01_Few.f a2 20).bind fun t105 => ((head_Set.f t101 t104 t105).bind fun t106 => ((head_Drop.f t106 t104).bind fun t109 => ((head_All.f t106 t104).bind fun t112 => ((head_Get.f t109 t104).bind fun bt115 => (if (t112.length : Int) = 1 then (if bt115.2 = true then (abatislaw14_HeadSets.j0 k t101 t104 t105 t106 t109 t112 true) else (if (t106.length : Int) = (wrap64 ((t109.length : Int) + 1)) then ((head_All.f t109 t104).bind fun t117 => (abatislaw14_HeadSets.j0 k t101 t104 t105 t106 t109 t112 ((t117.length : Int) != 0))) else (abatislaw14_HeadSets.j0 k t101 t104 t105 t106 t109 t112 true))) else (abatislaw14_HeadSets.j0 k t101 t104 t105 t106 t109 t112 true))))))))
theorem abatislaw14_HeadSets.mono_l : ∀ k, (∀ y0 y1 y2 y3 y4 y5 y6, LeO (abatislaw14_HeadSets.j0 k y0 y1 y2 y3 y4 y5 y6) (abatislaw14_HeadSets.j0 (k + 1) y0 y1 y2 y3 y4 y5 y6))
  | 0 => fun _ _ _ _ _ _ _ r h => by simp [abatislaw14_HeadSets.j0] at h
  | k + 1 => by
    have ih0 := abatislaw14_HeadSets.mono_l k
    · intro y0 y1 y2 y3 y4 y5 y6
      unfold abatislaw14_HeadSets.j0
      repeat' first
      | (with_reducible exact ih0 _ _ _ _ _ _ _)
      | (with_reducible exact abatislaw14_few.mono _ _ _)
      | (with_reducible exact abatislaw14_lives.mono _)
      | (with_reducible exact abatisref14_Drop.mono _ _ _)
      | (with_reducible exact abatisref14_Same.mono _ _ _)
      | (with_reducible exact LeO.refl _)
      | (with_reducible exact LeO.none _)
      | (with_reducible refine LeO.ite ?_ ?_)
      | (with_reducible refine LeO.bind ?_ (fun _ => ?_))
      | exact ih0 _ _ _ _ _ _ _
      | exact abatislaw14_few.mono _ _ _
      | exact abatislaw14_lives.mono _
      | exact abatisref14_Drop.mono _ _ _
      | exact abatisref14_Same.mono _ _ _
      | exact LeO.none _
      | refine LeO.ite ?_ ?_
      | refine LeO.bind ?_ (fun _ => ?_)
theorem abatislaw14_HeadSets.mono : ∀ a0 a1 a2 k, LeO (abatislaw14_HeadSets.f k a0 a1 a2) (abatislaw14_HeadSets.f (k + 1) a0 a1 a2) := by
  intro a0 a1 a2 k
  have ih0 := abatislaw14_HeadSets.mono_l k
  unfold abatislaw14_HeadSets.f
  repeat' first
      | (with_reducible exact ih0 _ _ _ _ _ _ _)
      | (with_reducible exact abatislaw14_few.mono _ _ _)
      | (with_reducible exact abatislaw14_lives.mono _)
      | (with_reducible exact abatisref14_Drop.mono _ _ _)
      | (with_reducible exact abatisref14_Same.mono _ _ _)
      | (with_reducible exact LeO.refl _)
      | (with_reducible exact LeO.none _)
      | (with_reducible refine LeO.ite ?_ ?_)
      | (with_reducible refine LeO.bind ?_ (fun _ => ?_))
      | exact ih0 _ _ _ _ _ _ _
      | exact abatislaw14_few.mono _ _ _
      | exact abatislaw14_lives.mono _
      | exact abatisref14_Drop.mono _ _ _
      | exact abatisref14_Same.mono _ _ _
      | exact LeO.none _
      | refine LeO.ite ?_ ?_
      | refine LeO.bind ?_ (fun _ => ?_)
set_option maxHeartbeats 8000000 in
set_option maxRecDepth 100000 in
theorem abatislaw14_HeadSets.calls (k : Nat) (A0 : Option Addr) (c0 : Nat) (l0 : List (S26)) (a1 : ByteArray) (a2 : ByteArray) (r : Bool) (w : World) (hmx : MaxIs w) (hr0 : Kd.C k26 w A0 l0.length l0) (hc0 : l0.length ≤ c0) (h : abatislaw14_HeadSets.f k l0 a1 a2 = some r) :
    Calls Tryd.prog 5 #[.slice A0 l0.length c0, .string a1, .string a2] w fun e w' => e = .returned (.bool r) ∧ Below w.heap.size w w' := by
  have HR0 := Aside0.mk hr0
  have HC0 := Aside0.mk hc0
  clear hr0 hc0
  have HB := Aside0.mk (Below.refl w.heap.size w)
  have HMX := Aside0.mk hmx
  clear hmx
  have H : ((abatislaw14_few.f k l0 10).bind fun t101 => ((abatisref01_Few.f a1 20).bind fun t104 => ((abatisref01_Few.f a2 20).bind fun t105 => ((head_Set.f t101 t104 t105).bind fun t106 => ((head_Drop.f t106 t104).bind fun t109 => ((head_All.f t106 t104).bind fun t112 => ((head_Get.f t109 t104).bind fun bt115 => (if (t112.length : Int) = 1 then (if bt115.2 = true then (abatislaw14_HeadSets.j0 k t101 t104 t105 t106 t109 t112 true) else (if (t106.length : Int) = (wrap64 ((t109.length : Int) + 1)) then ((head_All.f t109 t104).bind fun t117 => (abatislaw14_HeadSets.j0 k t101 t104 t105 t106 t109 t112 ((t117.length : Int) != 0))) else (abatislaw14_HeadSets.j0 k t101 t104 t105 t106 t109 t112 true))) else (abatislaw14_HeadSets.j0 k t101 t104 t105 t106 t109 t112 true))))))))) = some r := h
  clear h
  replace H := Option.bind_eq_some_iff.mp H
  obtain ⟨t101, A40, H⟩ := H
  replace H : ((abatisref01_Few.f a1 20).bind fun t104 => ((abatisref01_Few.f a2 20).bind fun t105 => ((head_Set.f t101 t104 t105).bind fun t106 => ((head_Drop.f t106 t104).bind fun t109 => ((head_All.f t106 t104).bind fun t112 => ((head_Get.f t109 t104).bind fun bt115 => (if (t112.length : Int) = 1 then (if bt115.2 = true then (abatislaw14_HeadSets.j0 k t101 t104 t105 t106 t109 t112 true) else (if (t106.length : Int) = (wrap64 ((t109.length : Int) + 1)) then ((head_All.f t109 t104).bind fun t117 => (abatislaw14_HeadSets.j0 k t101 t104 t105 t106 t109 t112 ((t117.length : Int) != 0))) else (abatislaw14_HeadSets.j0 k t101 t104 t105 t106 t109 t112 true))) else (abatislaw14_HeadSets.j0 k t101 t104 t105 t106 t109 t112 true)))))))) = some r := H
  have A4 := Aside0.mk A40
  clear A40
  replace H := Option.bind_eq_some_iff.mp H
  obtain ⟨t104, A50, H⟩ := H
  replace H : ((abatisref01_Few.f a2 20).bind fun t105 => ((head_Set.f t101 t104 t105).bind fun t106 => ((head_Drop.f t106 t104).bind fun t109 => ((head_All.f t106 t104).bind fun t112 => ((head_Get.f t109 t104).bind fun bt115 => (if (t112.length : Int) = 1 then (if bt115.2 = true then (abatislaw14_HeadSets.j0 k t101 t104 t105 t106 t109 t112 true) else (if (t106.length : Int) = (wrap64 ((t109.length : Int) + 1)) then ((head_All.f t109 t104).bind fun t117 => (abatislaw14_HeadSets.j0 k t101 t104 t105 t106 t109 t112 ((t117.length : Int) != 0))) else (abatislaw14_HeadSets.j0 k t101 t104 t105 t106 t109 t112 true))) else (abatislaw14_HeadSets.j0 k t101 t104 t105 t106 t109 t112 true))))))) = some r := H
  have A5 := Aside0.mk A50
  clear A50
  replace H := Option.bind_eq_some_iff.mp H
  obtain ⟨t105, A60, H⟩ := H
  replace H : ((head_Set.f t101 t104 t105).bind fun t106 => ((head_Drop.f t106 t104).bind fun t109 => ((head_All.f t106 t104).bind fun t112 => ((head_Get.f t109 t104).bind fun bt115 => (if (t112.length : Int) = 1 then (if bt115.2 = true then (abatislaw14_HeadSets.j0 k t101 t104 t105 t106 t109 t112 true) else (if (t106.length : Int) = (wrap64 ((t109.length : Int) + 1)) then ((head_All.f t109 t104).bind fun t117 => (abatislaw14_HeadSets.j0 k t101 t104 t105 t106 t109 t112 ((t117.length : Int) != 0))) else (abatislaw14_HeadSets.j0 k t101 t104 t105 t106 t109 t112 true))) else (abatislaw14_HeadSets.j0 k t101 t104 t105 t106 t109 t112 true)))))) = some r := H
  have A6 := Aside0.mk A60
  clear A60
  replace H := Option.bind_eq_some_iff.mp H
  obtain ⟨t106, A70, H⟩ := H
  replace H : ((head_Drop.f t106 t104).bind fun t109 => ((head_All.f t106 t104).bind fun t112 => ((head_Get.f t109 t104).bind fun bt115 => (if (t112.length : Int) = 1 then (if bt115.2 = true then (abatislaw14_HeadSets.j0 k t101 t104 t105 t106 t109 t112 true) else (if (t106.length : Int) = (wrap64 ((t109.length : Int) + 1)) then ((head_All.f t109 t104).bind fun t117 => (abatislaw14_HeadSets.j0 k t101 t104 t105 t106 t109 t112 ((t117.length : Int) != 0))) else (abatislaw14_HeadSets.j0 k t101 t104 t105 t106 t109 t112 true))) else (abatislaw14_HeadSets.j0 k t101 t104 t105 t106 t109 t112 true))))) = some r := H
  have A7 := Aside0.mk A70
  clear A70
  replace H := Option.bind_eq_some_iff.mp H
  obtain ⟨t109, A80, H⟩ := H
  replace H : ((head_All.f t106 t104).bind fun t112 => ((head_Get.f t109 t104).bind fun bt115 => (if (t112.length : Int) = 1 then (if bt115.2 = true then (abatislaw14_HeadSets.j0 k t101 t104 t105 t106 t109 t112 true) else (if (t106.length : Int) = (wrap64 ((t109.length : Int) + 1)) then ((head_All.f t109 t104).bind fun t117 => (abatislaw14_HeadSets.j0 k t101 t104 t105 t106 t109 t112 ((t117.length : Int) != 0))) else (abatislaw14_HeadSets.j0 k t101 t104 t105 t106 t109 t112 true))) else (abatislaw14_HeadSets.j0 k t101 t104 t105 t106 t109 t112 true)))) = some r := H
  have A8 := Aside0.mk A80
  clear A80
  replace H := Option.bind_eq_some_iff.mp H
  obtain ⟨t112, A90, H⟩ := H
  replace H : ((head_Get.f t109 t104).bind fun bt115 => (if (t112.length : Int) = 1 then (if bt115.2 = true then (abatislaw14_HeadSets.j0 k t101 t104 t105 t106 t109 t112 true) else (if (t106.length : Int) = (wrap64 ((t109.length : Int) + 1)) then ((head_All.f t109 t104).bind fun t117 => (abatislaw14_HeadSets.j0 k t101 t104 t105 t106 t109 t112 ((t117.length : Int) != 0))) else (abatislaw14_HeadSets.j0 k t101 t104 t105 t106 t109 t112 true))) else (abatislaw14_HeadSets.j0 k t101 t104 t105 t106 t109 t112 true))) = some r := H
  have A9 := Aside0.mk A90
  clear A90
  replace H := Option.bind_eq_some_iff.mp H
  obtain ⟨⟨t115, t116⟩, A100, H⟩ := H
  replace H : (if (t112.length : Int) = 1 then (if t116 = true then (abatislaw14_HeadSets.j0 k t101 t104 t105 t106 t109 t112 true) else (if (t106.length : Int) = (wrap64 ((t109.length : Int) + 1)) then ((head_All.f t109 t104).bind fun t117 => (abatislaw14_HeadSets.j0 k t101 t104 t105 t106 t109 t112 ((t117.length : Int) != 0))) else (abatislaw14_HeadSets.j0 k t101 t104 t105 t106 t109 t112 true))) else (abatislaw14_HeadSets.j0 k t101 t104 t105 t106 t109 t112 true)) = some r := H
  have A10 := Aside0.mk A100
  clear A100
  have HC11 := Aside0.mk H
  clear H
  go_enter Tryd.func5, Tryd.ntmps5
  go_upto_region 8 with (first | ((with_reducible refine gate_callee (f := 14) rfl ?_); refine goesL_ (some 13) rfl rfl Tryd.func14 (by kernel_rfl) rfl #[.slice A0 l0.length c0, .int .i64 10] rfl (by (try simp only [List.map_toArray, List.map_cons, List.map_nil]); first | done | rfl | (simp only [List.length_drop, List.length_take]; rfl)) ?_; (with_reducible refine (abatislaw14_few.calls k _ _ l0 10 t101 _ ?side1 ?side2 A4.out).mono ?_); (case side1 => repeat (first | exact HR0.out | (with_reducible refine Kd.C_alloc ?_ _) | (with_reducible refine Kd.C_drewN ?_ _) | (with_reducible refine Kd.C_drew ?_))); (case side2 => exact HC0.out); rintro e w12 ⟨v102, rfl, ho0, hb⟩; refine ⟨_, rfl, ?_⟩; have n0_ := Aside0.mk (Kd.R_lower ho0 (below_size (by repeat (first | (with_reducible first | exact HB.out | apply below_alloc | apply pw_below_drewN | apply below_drew1) | exact HB.out)))); have n1_ := Aside0.mk (below_step (by repeat (first | (with_reducible first | exact HB.out | apply below_alloc | apply pw_below_drewN | apply below_drew1) | exact HB.out)) hb); clear HB; have HO103 := n0_; have HB := n1_; clear n0_ n1_; (try clear hb); (try clear hb2); (try clear hk); (try clear hi); (try clear ho0)) | ((with_reducible refine gate_callee (f := 7) rfl ?_); refine goesL_ (some 15) rfl rfl Tryd.func7 (by kernel_rfl) rfl #[.string a1, .int .i64 20] rfl (by (try simp only [List.map_toArray, List.map_cons, List.map_nil]); first | done | rfl | (simp only [List.length_drop, List.length_take]; rfl)) ?_; (with_reducible refine (abatisref01_Few.calls a1 20 t104 _ A5.out).mono ?_); rintro e w' ⟨rfl, ⟨nd, rfl⟩⟩; refine ⟨_, rfl, ?_⟩) | ((with_reducible refine gate_callee (f := 7) rfl ?_); refine goesL_ (some 17) rfl rfl Tryd.func7 (by kernel_rfl) rfl #[.string a2, .int .i64 20] rfl (by (try simp only [List.map_toArray, List.map_cons, List.map_nil]); first | done | rfl | (simp only [List.length_drop, List.length_take]; rfl)) ?_; (with_reducible refine (abatisref01_Few.calls a2 20 t105 _ A6.out).mono ?_); rintro e w' ⟨rfl, ⟨nd, rfl⟩⟩; refine ⟨_, rfl, ?_⟩; obtain ⟨Ao13, co13, eo13⟩ := Kd.R_slice HO103.out; subst eo13) | ((with_reducible refine gate_callee (f := 19) rfl ?_); refine goesL_ (some 21) rfl rfl Tryd.func19 (by kernel_rfl) rfl #[.slice Ao13 t101.length co13, .string t104, .string t105] rfl (by (try simp only [List.map_toArray, List.map_cons, List.map_nil]); first | done | rfl | (simp only [List.length_drop, List.length_take]; rfl)) ?_; (with_reducible refine (head_Set.calls _ _ t101 t104 t105 t106 _ ?side1 ?side2 A7.out).mono ?_); (case side1 => repeat (first | exact (Kd.R_reads' HO103.out).2.2 | (with_reducible refine Kd.C_alloc ?_ _) | (with_reducible refine Kd.C_drewN ?_ _) | (with_reducible refine Kd.C_drew ?_))); (case side2 => exact (Kd.R_reads' HO103.out).2.1); rintro e w14 ⟨v107, rfl, ho0, hb⟩; refine ⟨_, rfl, ?_⟩; have n0_ := Aside0.mk (Kd.R_elder' (by (with_reducible repeat (first | apply Kd.R_alloc | apply Kd.R_drewN | apply Kd.R_drew)); exact HO103.out) (Kd.R_base ho0) hb); have n1_ := Aside0.mk (Kd.R_lower (Kd.R_new' ho0 (Kd.R_lt (by (with_reducible repeat (first | apply Kd.R_alloc | apply Kd.R_drewN | apply Kd.R_drew)); exact HO103.out))) (below_size (by repeat (first | (with_reducible first | exact HB.out | apply below_alloc | apply pw_below_drewN | apply below_drew1) | exact HB.out)))); have n2_ := Aside0.mk (below_step (by repeat (first | (with_reducible first | exact HB.out | apply below_alloc | apply pw_below_drewN | apply below_drew1) | exact HB.out)) hb); clear HO103; clear HB; have HO103 := n0_; have HO108 := n1_; have HB := n2_; clear n0_ n1_ n2_; (try clear hb); (try clear hb2); (try clear hk); (try clear hi); (try clear ho0); obtain ⟨Ao15, co15, eo15⟩ := Kd.R_slice HO108.out; subst eo15) | ((with_reducible refine gate_callee (f := 20) rfl ?_); refine goesL_ (some 24) rfl rfl Tryd.func20 (by kernel_rfl) rfl #[.slice Ao15 t106.length co15, .string t104] rfl (by (try simp only [List.map_toArray, List.map_cons, List.map_nil]); first | done | rfl | (simp only [List.length_drop, List.length_take]; rfl)) ?_; (with_reducible refine (head_Drop.calls _ _ t106 t104 t109 _ ?side1 ?side2 A8.out).mono ?_); (case side1 => repeat (first | exact (Kd.R_reads' HO108.out).2.2 | (with_reducible refine Kd.C_alloc ?_ _) | (with_reducible refine Kd.C_drewN ?_ _) | (with_reducible refine Kd.C_drew ?_))); (case side2 => exact (Kd.R_reads' HO108.out).2.1); rintro e w16 ⟨v110, rfl, ho0, hb⟩; refine ⟨_, rfl, ?_⟩; have n0_ := Aside0.mk (Kd.R_elder' (by (with_reducible repeat (first | apply Kd.R_alloc | apply Kd.R_drewN | apply Kd.R_drew)); exact HO103.out) (Kd.R_base ho0) hb); have n1_ := Aside0.mk (Kd.R_elder' (by (with_reducible repeat (first | apply Kd.R_alloc | apply Kd.R_drewN | apply Kd.R_drew)); exact HO108.out) (Kd.R_base ho0) hb); have n2_ := Aside0.mk (Kd.R_lower (Kd.R_new' (Kd.R_new' ho0 (Kd.R_lt (by (with_reducible repeat (first | apply Kd.R_alloc | apply Kd.R_drewN | apply Kd.R_drew)); exact HO103.out))) (Kd.R_lt (by (with_reducible repeat (first | apply Kd.R_alloc | apply Kd.R_drewN | apply Kd.R_drew)); exact HO108.out))) (below_size (by repeat (first | (with_reducible first | exact HB.out | apply below_alloc | apply pw_below_drewN | apply below_drew1) | exact HB.out)))); have n3_ := Aside0.mk (below_step (by repeat (first | (with_reducible first | exact HB.out | apply below_alloc | apply pw_below_drewN | apply below_drew1) | exact HB.out)) hb); clear HO103; clear HO108; clear HB; have HO103 := n0_; have HO108 := n1_; have HO111 := n2_; have HB := n3_; clear n0_ n1_ n2_ n3_; (try clear hb); (try clear hb2); (try clear hk); (try clear hi); (try clear ho0)) | ((with_reducible refine gate_callee (f := 21) rfl ?_); refine goesL_ (some 27) rfl rfl Tryd.func21 (by kernel_rfl) rfl #[.slice Ao15 t106.length co15, .string t104] rfl (by (try simp only [List.map_toArray, List.map_cons, List.map_nil]); first | done | rfl | (simp only [List.length_drop, List.length_take]; rfl)) ?_; (with_reducible refine (head_All.calls _ _ t106 t104 t112 _ ?side1 ?side2 A9.out).mono ?_); (case side1 => repeat (first | exact (Kd.R_reads' HO108.out).2.2 | (with_reducible refine Kd.C_alloc ?_ _) | (with_reducible refine Kd.C_drewN ?_ _) | (with_reducible refine Kd.C_drew ?_))); (case side2 => exact (Kd.R_reads' HO108.out).2.1); rintro e w17 ⟨v113, rfl, ho0, hb⟩; refine ⟨_, rfl, ?_⟩; have n0_ := Aside0.mk (Kd.R_below (by (with_reducible repeat (first | apply Kd.R_alloc | apply Kd.R_drewN | apply Kd.R_drew)); exact HO103.out) hb); have n1_ := Aside0.mk (Kd.R_below (by (with_reducible repeat (first | apply Kd.R_alloc | apply Kd.R_drewN | apply Kd.R_drew)); exact HO108.out) hb); have n2_ := Aside0.mk (Kd.R_below (by (with_reducible repeat (first | apply Kd.R_alloc | apply Kd.R_drewN | apply Kd.R_drew)); exact HO111.out) hb); have n3_ := Aside0.mk (Kd.R_lower ho0 (below_size (by repeat (first | (with_reducible first | exact HB.out | apply below_alloc | apply pw_below_drewN | apply below_drew1) | exact HB.out)))); have n4_ := Aside0.mk (below_step (by repeat (first | (with_reducible first | exact HB.out | apply below_alloc | apply pw_below_drewN | apply below_drew1) | exact HB.out)) hb); clear HO103; clear HO108; clear HO111; clear HB; have HO103 := n0_; have HO108 := n1_; have HO111 := n2_; have HO114 := n3_; have HB := n4_; clear n0_ n1_ n2_ n3_ n4_; (try clear hb); (try clear hb2); (try clear hk); (try clear hi); (try clear ho0); obtain ⟨Ao18, co18, eo18⟩ := Kd.R_slice HO111.out; subst eo18) | ((with_reducible refine gate_callee (f := 22) rfl ?_); refine goesL_ (some 31) rfl rfl Tryd.func22 (by kernel_rfl) rfl #[.slice Ao18 t109.length co18, .string t104] rfl (by (try simp only [List.map_toArray, List.map_cons, List.map_nil]); first | done | rfl | (simp only [List.length_drop, List.length_take]; rfl)) ?_; (with_reducible refine (head_Get.calls _ _ t109 t104 t115 t116 _ ?side1 ?side2 A10.out).mono ?_); (case side1 => repeat (first | exact (Kd.R_reads' HO111.out).2.2 | (with_reducible refine Kd.C_alloc ?_ _) | (with_reducible refine Kd.C_drewN ?_ _) | (with_reducible refine Kd.C_drew ?_))); (case side2 => exact (Kd.R_reads' HO111.out).2.1); rintro e w19 ⟨rfl, hb⟩; refine ⟨_, rfl, ?_⟩; have n0_ := Aside0.mk (Kd.R_below (by (with_reducible repeat (first | apply Kd.R_alloc | apply Kd.R_drewN | apply Kd.R_drew)); exact HO103.out) hb); have n1_ := Aside0.mk (Kd.R_below (by (with_reducible repeat (first | apply Kd.R_alloc | apply Kd.R_drewN | apply Kd.R_drew)); exact HO108.out) hb); have n2_ := Aside0.mk (Kd.R_below (by (with_reducible repeat (first | apply Kd.R_alloc | apply Kd.R_drewN | apply Kd.R_drew)); exact HO111.out) hb); have n3_ := Aside0.mk (Kd.R_below (by (with_reducible repeat (first | apply Kd.R_alloc | apply Kd.R_drewN | apply Kd.R_drew)); exact HO114.out) hb); have n4_ := Aside0.mk (below_step (by repeat (first | (with_reducible first | exact HB.out | apply below_alloc | apply pw_below_drewN | apply below_drew1) | exact HB.out)) hb); clear HO103; clear HO108; clear HO111; clear HO114; clear HB; have HO103 := n0_; have HO108 := n1_; have HO111 := n2_; have HO114 := n3_; have HB := n4_; clear n0_ n1_ n2_ n3_ n4_; (try clear hb); (try clear hb2); (try clear hk); (try clear hi)))
  (try simp only [Act.put, List.setIfInBounds_toArray, List.set_cons_zero, List.set_cons_succ])
  go_cut [54] (fun v54 wc => ∃ (kq : Nat) (x54_10 : Bool), v54 = .bool x54_10 ∧ Aside0 (abatislaw14_HeadSets.j0 kq t101 t104 t105 t106 t109 t112 x54_10 = some r) ∧ Aside0 (kq ≤ k) ∧ Aside0 (Kd.R k26 26 wc w.heap.size (fun k_ => some k_ ≠ ((.slice Ao15 t106.length co15) : Value).ownBlock ∧ some k_ ≠ ((.slice Ao18 t109.length co18) : Value).ownBlock) (.slice Ao13 t101.length co13) t101) ∧ Aside0 (Kd.R k26 26 wc w.heap.size (fun k_ => some k_ ≠ ((.slice Ao13 t101.length co13) : Value).ownBlock ∧ some k_ ≠ ((.slice Ao18 t109.length co18) : Value).ownBlock) (.slice Ao15 t106.length co15) t106) ∧ Aside0 (Kd.R k26 26 wc w.heap.size (fun k_ => some k_ ≠ ((.slice Ao13 t101.length co13) : Value).ownBlock ∧ some k_ ≠ ((.slice Ao15 t106.length co15) : Value).ownBlock) (.slice Ao18 t109.length co18) t109) ∧ Aside0 (Kd.R Kd.string 9 wc w.heap.size (fun _ => True) v113 t112) ∧ Aside0 (Below w.heap.size w wc))
  case first =>
    have H := HC11.out
    clear HC11
    by_cases c20 : (t112.length : Int) = 1
    · rw [if_pos c20] at H
      have c20b0 : ((t112.length : Int) == 1) = true := beq_iff_eq.mpr c20
      have c20b1 : ((t112.length : Int) != 1) = false := bne_eq_false_iff_eq.mpr c20
      clear c20
      (first | rw [c20b0] | (simp only [i64_w, i32_w]; rw [c20b0]) | skip)
      by_cases c21 : t116 = true
      · subst c21
        have H1 : (abatislaw14_HeadSets.j0 k t101 t104 t105 t106 t109 t112 true) = some r := by rw [if_pos rfl] at H; exact H
        clear H
        have H := H1
        clear H1
        have H' := Aside0.mk H
        clear H
        obtain ⟨Ao22, co22, eo22⟩ := Kd.R_slice HO114.out
        subst eo22
        go_wp2
        go_meet
        case rel => exact ⟨_, (true), (by first | rfl | (simp; done) | (simp [*]; done) | (simp [bne]; done) | (simp [bne, *]; done)), H', ⟨by first | omega | exact Nat.le_refl _⟩, ⟨by (with_reducible repeat (first | apply Kd.R_alloc | apply Kd.R_drewN | apply Kd.R_drew)); exact Kd.R_mono HO103.out (fun _ hk => ⟨hk.1.2, hk.2⟩)⟩, ⟨by (with_reducible repeat (first | apply Kd.R_alloc | apply Kd.R_drewN | apply Kd.R_drew)); exact Kd.R_mono HO108.out (fun _ hk => ⟨hk.1.2, hk.2⟩)⟩, ⟨by (with_reducible repeat (first | apply Kd.R_alloc | apply Kd.R_drewN | apply Kd.R_drew)); exact Kd.R_mono HO111.out (fun _ hk => ⟨hk.1.2, hk.2⟩)⟩, ⟨by (with_reducible repeat (first | apply Kd.R_alloc | apply Kd.R_drewN | apply Kd.R_drew)); exact HO114.out⟩, ⟨by repeat (first | (with_reducible first | exact HB.out | apply below_alloc | apply pw_below_drewN | apply below_drew1) | exact HB.out)⟩⟩
      · replace c21 := Bool.eq_false_iff.mpr c21
        subst c21
        have H1 : (if (t106.length : Int) = (wrap64 ((t109.length : Int) + 1)) then ((head_All.f t109 t104).bind fun t117 => (abatislaw14_HeadSets.j0 k t101 t104 t105 t106 t109 t112 ((t117.length : Int) != 0))) else (abatislaw14_HeadSets.j0 k t101 t104 t105 t106 t109 t112 true)) = some r := by rw [if_neg (show ¬ (false = true) by decide)] at H; exact H
        clear H
        have H := H1
        clear H1
        by_cases c23 : (t106.length : Int) = (wrap64 ((t109.length : Int) + 1))
        · rw [if_pos c23] at H
          have c23b0 : ((t106.length : Int) == (wrap64 ((t109.length : Int) + 1))) = true := beq_iff_eq.mpr c23
          have c23b1 : ((t106.length : Int) != (wrap64 ((t109.length : Int) + 1))) = false := bne_eq_false_iff_eq.mpr c23
          clear c23
          replace H := Option.bind_eq_some_iff.mp H
          obtain ⟨t117, A240, H⟩ := H
          replace H : (abatislaw14_HeadSets.j0 k t101 t104 t105 t106 t109 t112 ((t117.length : Int) != 0)) = some r := H
          have A24 := Aside0.mk A240
          clear A240
          have H' := Aside0.mk H
          clear H
          obtain ⟨Ao25, co25, eo25⟩ := Kd.R_slice HO114.out
          subst eo25
          go_wp2_with (first | (go_at_call 21; (with_reducible refine (head_All.calls _ _ t109 t104 t117 _ ?side1 ?side2 A24.out).mono ?_); (case side1 => repeat (first | exact (Kd.R_reads' HO111.out).2.2 | (with_reducible refine Kd.C_alloc ?_ _) | (with_reducible refine Kd.C_drewN ?_ _) | (with_reducible refine Kd.C_drew ?_))); (case side2 => exact (Kd.R_reads' HO111.out).2.1); rintro e w26 ⟨v118, rfl, ho0, hb⟩; have n0_ := Aside0.mk (Kd.R_below (by (with_reducible repeat (first | apply Kd.R_alloc | apply Kd.R_drewN | apply Kd.R_drew)); exact HO103.out) hb); have n1_ := Aside0.mk (Kd.R_below (by (with_reducible repeat (first | apply Kd.R_alloc | apply Kd.R_drewN | apply Kd.R_drew)); exact HO108.out) hb); have n2_ := Aside0.mk (Kd.R_below (by (with_reducible repeat (first | apply Kd.R_alloc | apply Kd.R_drewN | apply Kd.R_drew)); exact HO111.out) hb); have n3_ := Aside0.mk (Kd.R_elder' (by (with_reducible repeat (first | apply Kd.R_alloc | apply Kd.R_drewN | apply Kd.R_drew)); exact HO114.out) (Kd.R_base ho0) hb); have n4_ := Aside0.mk (Kd.R_lower (Kd.R_new' ho0 (Kd.R_lt (by (with_reducible repeat (first | apply Kd.R_alloc | apply Kd.R_drewN | apply Kd.R_drew)); exact HO114.out))) (below_size (by repeat (first | (with_reducible first | exact HB.out | apply below_alloc | apply pw_below_drewN | apply below_drew1) | exact HB.out)))); have n5_ := Aside0.mk (below_step (by repeat (first | (with_reducible first | exact HB.out | apply below_alloc | apply pw_below_drewN | apply below_drew1) | exact HB.out)) hb); clear HO103; clear HO108; clear HO111; clear HO114; clear HB; have HO103 := n0_; have HO108 := n1_; have HO111 := n2_; have HO114 := n3_; have HO119 := n4_; have HB := n5_; clear n0_ n1_ n2_ n3_ n4_ n5_; (try clear hb); (try clear hb2); (try clear hk); (try clear hi); (try clear ho0); obtain ⟨Ao27, co27, eo27⟩ := Kd.R_slice HO119.out; subst eo27))
          go_meet
          case rel => exact ⟨_, (((t117.length : Int) != 0)), (by first | rfl | (simp; done) | (simp [*]; done) | (simp [bne]; done) | (simp [bne, *]; done)), H', ⟨by first | omega | exact Nat.le_refl _⟩, ⟨by (with_reducible repeat (first | apply Kd.R_alloc | apply Kd.R_drewN | apply Kd.R_drew)); exact Kd.R_mono HO103.out (fun _ hk => ⟨hk.1.2, hk.2⟩)⟩, ⟨by (with_reducible repeat (first | apply Kd.R_alloc | apply Kd.R_drewN | apply Kd.R_drew)); exact Kd.R_mono HO108.out (fun _ hk => ⟨hk.1.2, hk.2⟩)⟩, ⟨by (with_reducible repeat (first | apply Kd.R_alloc | apply Kd.R_drewN | apply Kd.R_drew)); exact Kd.R_mono HO111.out (fun _ hk => ⟨hk.1.2, hk.2⟩)⟩, ⟨by (with_reducible repeat (first | apply Kd.R_alloc | apply Kd.R_drewN | apply Kd.R_drew)); exact Kd.R_mono HO114.out (fun _ hk => trivial)⟩, ⟨by repeat (first | (with_reducible first | exact HB.out | apply below_alloc | apply pw_below_drewN | apply below_drew1) | exact HB.out)⟩⟩
        · rw [if_neg c23] at H
          have c23b0 : ((t106.length : Int) == (wrap64 ((t109.length : Int) + 1))) = false := beq_eq_false_iff_ne.mpr c23
          have c23b1 : ((t106.length : Int) != (wrap64 ((t109.length : Int) + 1))) = true := bne_iff_ne.mpr c23
          have H' := Aside0.mk H
          clear H
          obtain ⟨Ao28, co28, eo28⟩ := Kd.R_slice HO114.out
          subst eo28
          go_wp2
          go_meet
          case rel => exact ⟨_, (true), (by first | rfl | (simp; done) | (simp [*]; done) | (simp [bne]; done) | (simp [bne, *]; done)), H', ⟨by first | omega | exact Nat.le_refl _⟩, ⟨by (with_reducible repeat (first | apply Kd.R_alloc | apply Kd.R_drewN | apply Kd.R_drew)); exact Kd.R_mono HO103.out (fun _ hk => ⟨hk.1.2, hk.2⟩)⟩, ⟨by (with_reducible repeat (first | apply Kd.R_alloc | apply Kd.R_drewN | apply Kd.R_drew)); exact Kd.R_mono HO108.out (fun _ hk => ⟨hk.1.2, hk.2⟩)⟩, ⟨by (with_reducible repeat (first | apply Kd.R_alloc | apply Kd.R_drewN | apply Kd.R_drew)); exact Kd.R_mono HO111.out (fun _ hk => ⟨hk.1.2, hk.2⟩)⟩, ⟨by (with_reducible repeat (first | apply Kd.R_alloc | apply Kd.R_drewN | apply Kd.R_drew)); exact HO114.out⟩, ⟨by repeat (first | (with_reducible first | exact HB.out | apply below_alloc | apply pw_below_drewN | apply below_drew1) | exact HB.out)⟩⟩
    · rw [if_neg c20] at H
      have c20b0 : ((t112.length : Int) == 1) = false := beq_eq_false_iff_ne.mpr c20
      have c20b1 : ((t112.length : Int) != 1) = true := bne_iff_ne.mpr c20
      (first | rw [c20b0] | (simp only [i64_w, i32_w]; rw [c20b0]) | skip)
      have H' := Aside0.mk H
      clear H
      obtain ⟨Ao29, co29, eo29⟩ := Kd.R_slice HO114.out
      subst eo29
      go_wp2
      go_meet
      case rel => exact ⟨_, (true), (by first | rfl | (simp; done) | (simp [*]; done) | (simp [bne]; done) | (simp [bne, *]; done)), H', ⟨by first | omega | exact Nat.le_refl _⟩, ⟨by (with_reducible repeat (first | apply Kd.R_alloc | apply Kd.R_drewN | apply Kd.R_drew)); exact Kd.R_mono HO103.out (fun _ hk => ⟨hk.1.2, hk.2⟩)⟩, ⟨by (with_reducible repeat (first | apply Kd.R_alloc | apply Kd.R_drewN | apply Kd.R_drew)); exact Kd.R_mono HO108.out (fun _ hk => ⟨hk.1.2, hk.2⟩)⟩, ⟨by (with_reducible repeat (first | apply Kd.R_alloc | apply Kd.R_drewN | apply Kd.R_drew)); exact Kd.R_mono HO111.out (fun _ hk => ⟨hk.1.2, hk.2⟩)⟩, ⟨by (with_reducible repeat (first | apply Kd.R_alloc | apply Kd.R_drewN | apply Kd.R_drew)); exact HO114.out⟩, ⟨by repeat (first | (with_reducible first | exact HB.out | apply below_alloc | apply pw_below_drewN | apply below_drew1) | exact HB.out)⟩⟩
  case rest =>
    clear HC11
    try clear c1
    try clear c2
    try clear p2
    try clear c5
    try clear p6
    try clear c7
    try clear c14
    try clear c19
    try clear c20
    try clear c20b0
    try clear c20b1
    try clear c21
    try clear c22
    try clear c23
    try clear c23b0
    try clear c23b1
    obtain ⟨kq, x54_10, rfl, HA, HJ10, HO_0, HO_7, HO_8, HO_9, HB⟩ := hcut
    cases kq with
    | zero => exact absurd HA.out (by simp [abatislaw14_HeadSets.j0])
    | succ kj10 =>
      have H := HA.out
      clear HA
      simp only [abatislaw14_HeadSets.j0] at H
      by_cases c30 : x54_10 = true
      · subst c30
        have H1 : (some false) = some r := by rw [if_pos rfl] at H; exact H
        clear H
        have H := H1
        clear H1
        obtain rfl := Option.some.inj H
        go_wp2
        go_ret
        exact ⟨by first | rfl | (simp [errW_none, errW_some] <;> rfl) | (simp [*, errW_none, errW_some] <;> rfl), by repeat (first | (with_reducible first | exact HB.out | apply below_alloc | apply pw_below_drewN | apply below_drew1) | exact HB.out)⟩
      · replace c30 := Bool.eq_false_iff.mpr c30
        subst c30
        have H1 : (if 0 < (t112.length : Int) then (if (rdOf ByteArray.empty t112 0).toList = t105.toList then ((abatisref14_Drop.f kj10 t101 t104).bind fun t121 => ((abatisref14_Same.f kj10 t109 t121).bind fun t124 => (if t124 = true then ((head_Set.f t106 t104 t105).bind fun t125 => ((abatisref14_Same.f kj10 t125 t106).bind fun t128 => (if t128 = true then ((abatislaw14_lives.f kj10).bind fun t129 => (some t129)) else (some false)))) else (some false)))) else (some false)) else (none)) = some r := by rw [if_neg (show ¬ (false = true) by decide)] at H; exact H
        clear H
        have H := H1
        clear H1
        by_cases c31 : 0 < (t112.length : Int)
        · rw [if_pos c31] at H
          have c31b0 : decide (0 < (t112.length : Int)) = true := decide_eq_true c31
          have c31b1 : decide (0 < t112.length) = true := decide_eq_true (by omega)
          clear c31
          by_cases c32 : (rdOf ByteArray.empty t112 0).toList = t105.toList
          · rw [if_pos c32] at H
            have c32b0 : ((rdOf ByteArray.empty t112 0).toList == t105.toList) = true := beq_iff_eq.mpr c32
            have c32b1 : ((rdOf ByteArray.empty t112 0).toList != t105.toList) = false := bne_eq_false_iff_eq.mpr c32
            clear c32
            replace H := Option.bind_eq_some_iff.mp H
            obtain ⟨t121, A330, H⟩ := H
            replace H : ((abatisref14_Same.f kj10 t109 t121).bind fun t124 => (if t124 = true then ((head_Set.f t106 t104 t105).bind fun t125 => ((abatisref14_Same.f kj10 t125 t106).bind fun t128 => (if t128 = true then ((abatislaw14_lives.f kj10).bind fun t129 => (some t129)) else (some false)))) else (some false))) = some r := H
            have A33 := Aside0.mk A330
            clear A330
            replace H := Option.bind_eq_some_iff.mp H
            obtain ⟨t124, A340, H⟩ := H
            replace H : (if t124 = true then ((head_Set.f t106 t104 t105).bind fun t125 => ((abatisref14_Same.f kj10 t125 t106).bind fun t128 => (if t128 = true then ((abatislaw14_lives.f kj10).bind fun t129 => (some t129)) else (some false)))) else (some false)) = some r := H
            have A34 := Aside0.mk A340
            clear A340
            by_cases c35 : t124 = true
            · subst c35
              have H1 : ((head_Set.f t106 t104 t105).bind fun t125 => ((abatisref14_Same.f kj10 t125 t106).bind fun t128 => (if t128 = true then ((abatislaw14_lives.f kj10).bind fun t129 => (some t129)) else (some false)))) = some r := by rw [if_pos rfl] at H; exact H
              clear H
              have H := H1
              clear H1
              replace H := Option.bind_eq_some_iff.mp H
              obtain ⟨t125, A360, H⟩ := H
              replace H : ((abatisref14_Same.f kj10 t125 t106).bind fun t128 => (if t128 = true then ((abatislaw14_lives.f kj10).bind fun t129 => (some t129)) else (some false))) = some r := H
              have A36 := Aside0.mk A360
              clear A360
              replace H := Option.bind_eq_some_iff.mp H
              obtain ⟨t128, A370, H⟩ := H
              replace H : (if t128 = true then ((abatislaw14_lives.f kj10).bind fun t129 => (some t129)) else (some false)) = some r := H
              have A37 := Aside0.mk A370
              clear A370
              by_cases c38 : t128 = true
              · subst c38
                have H1 : ((abatislaw14_lives.f kj10).bind fun t129 => (some t129)) = some r := by rw [if_pos rfl] at H; exact H
                clear H
                have H := H1
                clear H1
                replace H := Option.bind_eq_some_iff.mp H
                obtain ⟨t129, A390, H⟩ := H
                replace H : (some t129) = some r := H
                have A39 := Aside0.mk A390
                clear A390
                obtain rfl := Option.some.inj H
                obtain ⟨Ao40, co40, eo40⟩ := Kd.R_slice HO_9.out
                subst eo40
                have p120 : 0 ≤ (0 : Int) := (by omega)
                have q120 : 0 < (t112.length : Int) := of_decide_eq_true (by first | (with_reducible assumption) | assumption)
                obtain ⟨ad120, e120, hx120_0⟩ := Kd.at_string (Kd.R_reads' HO_9.out).2.2 0 p120 q120
                cases e120
                have qi120 : (0 < t112.length) = True := eq_true (by omega)
                (try rw [show ((0 : Int)).toNat = 0 from rfl] at hx120_0)
                (try rw [Addr.add_zero'] at hx120_0)
                replace p120 := eq_true p120
                replace q120 := eq_true q120
                go_wp2_with (first | (go_at_call 24; (with_reducible refine (abatisref14_Drop.calls kj10 _ _ t101 t104 t121 _ ?side1 ?side2 A33.out).mono ?_); (case side1 => repeat (first | exact (Kd.R_reads' HO_0.out).2.2 | (with_reducible refine Kd.C_alloc ?_ _) | (with_reducible refine Kd.C_drewN ?_ _) | (with_reducible refine Kd.C_drew ?_))); (case side2 => exact (Kd.R_reads' HO_0.out).2.1); rintro e w41 ⟨v122, rfl, ho0, hb⟩; have n0_ := Aside0.mk (Kd.R_elder' (by (with_reducible repeat (first | apply Kd.R_alloc | apply Kd.R_drewN | apply Kd.R_drew)); exact HO_0.out) (Kd.R_base ho0) hb); have n1_ := Aside0.mk (Kd.R_elder' (by (with_reducible repeat (first | apply Kd.R_alloc | apply Kd.R_drewN | apply Kd.R_drew)); exact HO_7.out) (Kd.R_base ho0) hb); have n2_ := Aside0.mk (Kd.R_elder' (by (with_reducible repeat (first | apply Kd.R_alloc | apply Kd.R_drewN | apply Kd.R_drew)); exact HO_8.out) (Kd.R_base ho0) hb); have n3_ := Aside0.mk (Kd.R_below (by (with_reducible repeat (first | apply Kd.R_alloc | apply Kd.R_drewN | apply Kd.R_drew)); exact HO_9.out) hb); have n4_ := Aside0.mk (Kd.R_lower (Kd.R_new' (Kd.R_new' (Kd.R_new' ho0 (Kd.R_lt (by (with_reducible repeat (first | apply Kd.R_alloc | apply Kd.R_drewN | apply Kd.R_drew)); exact HO_0.out))) (Kd.R_lt (by (with_reducible repeat (first | apply Kd.R_alloc | apply Kd.R_drewN | apply Kd.R_drew)); exact HO_7.out))) (Kd.R_lt (by (with_reducible repeat (first | apply Kd.R_alloc | apply Kd.R_drewN | apply Kd.R_drew)); exact HO_8.out))) (below_size (by repeat (first | (with_reducible first | exact HB.out | apply below_alloc | apply pw_below_drewN | apply below_drew1) | exact HB.out)))); have n5_ := Aside0.mk (below_step (by repeat (first | (with_reducible first | exact HB.out | apply below_alloc | apply pw_below_drewN | apply below_drew1) | exact HB.out)) hb); clear HO_0; clear HO_7; clear HO_8; clear HO_9; clear HB; have HO_0 := n0_; have HO_7 := n1_; have HO_8 := n2_; have HO_9 := n3_; have HO123 := n4_; have HB := n5_; clear n0_ n1_ n2_ n3_ n4_ n5_; (try clear hb); (try clear hb2); (try clear hk); (try clear hi); (try clear ho0); obtain ⟨Ao42, co42, eo42⟩ := Kd.R_slice HO123.out; subst eo42) | (go_at_call 23; (with_reducible refine (abatisref14_Same.calls kj10 _ _ t109 _ _ t121 true _ ?side1 ?side2 ?side3 ?side4 A34.out).mono ?_); (case side1 => repeat (first | exact (Kd.R_reads' HO_8.out).2.2 | (with_reducible refine Kd.C_alloc ?_ _) | (with_reducible refine Kd.C_drewN ?_ _) | (with_reducible refine Kd.C_drew ?_))); (case side2 => exact (Kd.R_reads' HO_8.out).2.1); (case side3 => repeat (first | exact (Kd.R_reads' HO123.out).2.2 | (with_reducible refine Kd.C_alloc ?_ _) | (with_reducible refine Kd.C_drewN ?_ _) | (with_reducible refine Kd.C_drew ?_))); (case side4 => exact (Kd.R_reads' HO123.out).2.1); rintro e w' ⟨rfl, ⟨nd, rfl⟩⟩) | (go_at_call 19; (with_reducible refine (head_Set.calls _ _ t106 t104 t105 t125 _ ?side1 ?side2 A36.out).mono ?_); (case side1 => repeat (first | exact (Kd.R_reads' HO_7.out).2.2 | (with_reducible refine Kd.C_alloc ?_ _) | (with_reducible refine Kd.C_drewN ?_ _) | (with_reducible refine Kd.C_drew ?_))); (case side2 => exact (Kd.R_reads' HO_7.out).2.1); rintro e w43 ⟨v126, rfl, ho0, hb⟩; have n0_ := Aside0.mk (Kd.R_elder' (by (with_reducible repeat (first | apply Kd.R_alloc | apply Kd.R_drewN | apply Kd.R_drew)); exact HO_0.out) (Kd.R_base ho0) hb); have n1_ := Aside0.mk (Kd.R_elder' (by (with_reducible repeat (first | apply Kd.R_alloc | apply Kd.R_drewN | apply Kd.R_drew)); exact HO_7.out) (Kd.R_base ho0) hb); have n2_ := Aside0.mk (Kd.R_elder' (by (with_reducible repeat (first | apply Kd.R_alloc | apply Kd.R_drewN | apply Kd.R_drew)); exact HO_8.out) (Kd.R_base ho0) hb); have n3_ := Aside0.mk (Kd.R_below (by (with_reducible repeat (first | apply Kd.R_alloc | apply Kd.R_drewN | apply Kd.R_drew)); exact HO_9.out) hb); have n4_ := Aside0.mk (Kd.R_elder' (by (with_reducible repeat (first | apply Kd.R_alloc | apply Kd.R_drewN | apply Kd.R_drew)); exact HO123.out) (Kd.R_base ho0) hb); have n5_ := Aside0.mk (Kd.R_lower (Kd.R_new' (Kd.R_new' (Kd.R_new' (Kd.R_new' ho0 (Kd.R_lt (by (with_reducible repeat (first | apply Kd.R_alloc | apply Kd.R_drewN | apply Kd.R_drew)); exact HO_0.out))) (Kd.R_lt (by (with_reducible repeat (first | apply Kd.R_alloc | apply Kd.R_drewN | apply Kd.R_drew)); exact HO_7.out))) (Kd.R_lt (by (with_reducible repeat (first | apply Kd.R_alloc | apply Kd.R_drewN | apply Kd.R_drew)); exact HO_8.out))) (Kd.R_lt (by (with_reducible repeat (first | apply Kd.R_alloc | apply Kd.R_drewN | apply Kd.R_drew)); exact HO123.out))) (below_size (by repeat (first | (with_reducible first | exact HB.out | apply below_alloc | apply pw_below_drewN | apply below_drew1) | exact HB.out)))); have n6_ := Aside0.mk (below_step (by repeat (first | (with_reducible first | exact HB.out | apply below_alloc | apply pw_below_drewN | apply below_drew1) | exact HB.out)) hb); clear HO_0; clear HO_7; clear HO_8; clear HO_9; clear HO123; clear HB; have HO_0 := n0_; have HO_7 := n1_; have HO_8 := n2_; have HO_9 := n3_; have HO123 := n4_; have HO127 := n5_; have HB := n6_; clear n0_ n1_ n2_ n3_ n4_ n5_ n6_; (try clear hb); (try clear hb2); (try clear hk); (try clear hi); (try clear ho0); obtain ⟨Ao44, co44, eo44⟩ := Kd.R_slice HO127.out; subst eo44) | (go_at_call 23; (with_reducible refine (abatisref14_Same.calls kj10 _ _ t125 _ _ t106 true _ ?side1 ?side2 ?side3 ?side4 A37.out).mono ?_); (case side1 => repeat (first | exact (Kd.R_reads' HO127.out).2.2 | (with_reducible refine Kd.C_alloc ?_ _) | (with_reducible refine Kd.C_drewN ?_ _) | (with_reducible refine Kd.C_drew ?_))); (case side2 => exact (Kd.R_reads' HO127.out).2.1); (case side3 => repeat (first | exact (Kd.R_reads' HO_7.out).2.2 | (with_reducible refine Kd.C_alloc ?_ _) | (with_reducible refine Kd.C_drewN ?_ _) | (with_reducible refine Kd.C_drew ?_))); (case side4 => exact (Kd.R_reads' HO_7.out).2.1); rintro e w' ⟨rfl, ⟨nd, rfl⟩⟩) | (go_at_call 13; (with_reducible refine (abatislaw14_lives.calls kj10  t129 _ (maxis_below HMX.out (by repeat (first | (with_reducible first | exact HB.out | apply below_alloc | apply pw_below_drewN | apply below_drew1) | exact HB.out))) A39.out).mono ?_); rintro e w45 ⟨rfl, hb⟩; have n0_ := Aside0.mk (Kd.R_below (by (with_reducible repeat (first | apply Kd.R_alloc | apply Kd.R_drewN | apply Kd.R_drew)); exact HO_0.out) hb); have n1_ := Aside0.mk (Kd.R_below (by (with_reducible repeat (first | apply Kd.R_alloc | apply Kd.R_drewN | apply Kd.R_drew)); exact HO_7.out) hb); have n2_ := Aside0.mk (Kd.R_below (by (with_reducible repeat (first | apply Kd.R_alloc | apply Kd.R_drewN | apply Kd.R_drew)); exact HO_8.out) hb); have n3_ := Aside0.mk (Kd.R_below (by (with_reducible repeat (first | apply Kd.R_alloc | apply Kd.R_drewN | apply Kd.R_drew)); exact HO_9.out) hb); have n4_ := Aside0.mk (Kd.R_below (by (with_reducible repeat (first | apply Kd.R_alloc | apply Kd.R_drewN | apply Kd.R_drew)); exact HO123.out) hb); have n5_ := Aside0.mk (Kd.R_below (by (with_reducible repeat (first | apply Kd.R_alloc | apply Kd.R_drewN | apply Kd.R_drew)); exact HO127.out) hb); have n6_ := Aside0.mk (below_step (by repeat (first | (with_reducible first | exact HB.out | apply below_alloc | apply pw_below_drewN | apply below_drew1) | exact HB.out)) hb); clear HO_0; clear HO_7; clear HO_8; clear HO_9; clear HO123; clear HO127; clear HB; have HO_0 := n0_; have HO_7 := n1_; have HO_8 := n2_; have HO_9 := n3_; have HO123 := n4_; have HO127 := n5_; have HB := n6_; clear n0_ n1_ n2_ n3_ n4_ n5_ n6_; (try clear hb); (try clear hb2); (try clear hk); (try clear hi)))
                go_ret
                exact ⟨by first | rfl | (simp [errW_none, errW_some] <;> rfl) | (simp [*, errW_none, errW_some] <;> rfl), by repeat (first | (with_reducible first | exact HB.out | apply below_alloc | apply pw_below_drewN | apply below_drew1) | exact HB.out)⟩
              · replace c38 := Bool.eq_false_iff.mpr c38
                subst c38
                have H1 : (some false) = some r := by rw [if_neg (show ¬ (false = true) by decide)] at H; exact H
                clear H
                have H := H1
                clear H1
                obtain rfl := Option.some.inj H
                obtain ⟨Ao46, co46, eo46⟩ := Kd.R_slice HO_9.out
                subst eo46
                have p120 : 0 ≤ (0 : Int) := (by omega)
                have q120 : 0 < (t112.length : Int) := of_decide_eq_true (by first | (with_reducible assumption) | assumption)
                obtain ⟨ad120, e120, hx120_0⟩ := Kd.at_string (Kd.R_reads' HO_9.out).2.2 0 p120 q120
                cases e120
                have qi120 : (0 < t112.length) = True := eq_true (by omega)
                (try rw [show ((0 : Int)).toNat = 0 from rfl] at hx120_0)
                (try rw [Addr.add_zero'] at hx120_0)
                replace p120 := eq_true p120
                replace q120 := eq_true q120
                go_wp2_with (first | (go_at_call 24; (with_reducible refine (abatisref14_Drop.calls kj10 _ _ t101 t104 t121 _ ?side1 ?side2 A33.out).mono ?_); (case side1 => repeat (first | exact (Kd.R_reads' HO_0.out).2.2 | (with_reducible refine Kd.C_alloc ?_ _) | (with_reducible refine Kd.C_drewN ?_ _) | (with_reducible refine Kd.C_drew ?_))); (case side2 => exact (Kd.R_reads' HO_0.out).2.1); rintro e w47 ⟨v122, rfl, ho0, hb⟩; have n0_ := Aside0.mk (Kd.R_elder' (by (with_reducible repeat (first | apply Kd.R_alloc | apply Kd.R_drewN | apply Kd.R_drew)); exact HO_0.out) (Kd.R_base ho0) hb); have n1_ := Aside0.mk (Kd.R_elder' (by (with_reducible repeat (first | apply Kd.R_alloc | apply Kd.R_drewN | apply Kd.R_drew)); exact HO_7.out) (Kd.R_base ho0) hb); have n2_ := Aside0.mk (Kd.R_elder' (by (with_reducible repeat (first | apply Kd.R_alloc | apply Kd.R_drewN | apply Kd.R_drew)); exact HO_8.out) (Kd.R_base ho0) hb); have n3_ := Aside0.mk (Kd.R_below (by (with_reducible repeat (first | apply Kd.R_alloc | apply Kd.R_drewN | apply Kd.R_drew)); exact HO_9.out) hb); have n4_ := Aside0.mk (Kd.R_lower (Kd.R_new' (Kd.R_new' (Kd.R_new' ho0 (Kd.R_lt (by (with_reducible repeat (first | apply Kd.R_alloc | apply Kd.R_drewN | apply Kd.R_drew)); exact HO_0.out))) (Kd.R_lt (by (with_reducible repeat (first | apply Kd.R_alloc | apply Kd.R_drewN | apply Kd.R_drew)); exact HO_7.out))) (Kd.R_lt (by (with_reducible repeat (first | apply Kd.R_alloc | apply Kd.R_drewN | apply Kd.R_drew)); exact HO_8.out))) (below_size (by repeat (first | (with_reducible first | exact HB.out | apply below_alloc | apply pw_below_drewN | apply below_drew1) | exact HB.out)))); have n5_ := Aside0.mk (below_step (by repeat (first | (with_reducible first | exact HB.out | apply below_alloc | apply pw_below_drewN | apply below_drew1) | exact HB.out)) hb); clear HO_0; clear HO_7; clear HO_8; clear HO_9; clear HB; have HO_0 := n0_; have HO_7 := n1_; have HO_8 := n2_; have HO_9 := n3_; have HO123 := n4_; have HB := n5_; clear n0_ n1_ n2_ n3_ n4_ n5_; (try clear hb); (try clear hb2); (try clear hk); (try clear hi); (try clear ho0); obtain ⟨Ao48, co48, eo48⟩ := Kd.R_slice HO123.out; subst eo48) | (go_at_call 23; (with_reducible refine (abatisref14_Same.calls kj10 _ _ t109 _ _ t121 true _ ?side1 ?side2 ?side3 ?side4 A34.out).mono ?_); (case side1 => repeat (first | exact (Kd.R_reads' HO_8.out).2.2 | (with_reducible refine Kd.C_alloc ?_ _) | (with_reducible refine Kd.C_drewN ?_ _) | (with_reducible refine Kd.C_drew ?_))); (case side2 => exact (Kd.R_reads' HO_8.out).2.1); (case side3 => repeat (first | exact (Kd.R_reads' HO123.out).2.2 | (with_reducible refine Kd.C_alloc ?_ _) | (with_reducible refine Kd.C_drewN ?_ _) | (with_reducible refine Kd.C_drew ?_))); (case side4 => exact (Kd.R_reads' HO123.out).2.1); rintro e w' ⟨rfl, ⟨nd, rfl⟩⟩) | (go_at_call 19; (with_reducible refine (head_Set.calls _ _ t106 t104 t105 t125 _ ?side1 ?side2 A36.out).mono ?_); (case side1 => repeat (first | exact (Kd.R_reads' HO_7.out).2.2 | (with_reducible refine Kd.C_alloc ?_ _) | (with_reducible refine Kd.C_drewN ?_ _) | (with_reducible refine Kd.C_drew ?_))); (case side2 => exact (Kd.R_reads' HO_7.out).2.1); rintro e w49 ⟨v126, rfl, ho0, hb⟩; have n0_ := Aside0.mk (Kd.R_elder' (by (with_reducible repeat (first | apply Kd.R_alloc | apply Kd.R_drewN | apply Kd.R_drew)); exact HO_0.out) (Kd.R_base ho0) hb); have n1_ := Aside0.mk (Kd.R_elder' (by (with_reducible repeat (first | apply Kd.R_alloc | apply Kd.R_drewN | apply Kd.R_drew)); exact HO_7.out) (Kd.R_base ho0) hb); have n2_ := Aside0.mk (Kd.R_elder' (by (with_reducible repeat (first | apply Kd.R_alloc | apply Kd.R_drewN | apply Kd.R_drew)); exact HO_8.out) (Kd.R_base ho0) hb); have n3_ := Aside0.mk (Kd.R_below (by (with_reducible repeat (first | apply Kd.R_alloc | apply Kd.R_drewN | apply Kd.R_drew)); exact HO_9.out) hb); have n4_ := Aside0.mk (Kd.R_elder' (by (with_reducible repeat (first | apply Kd.R_alloc | apply Kd.R_drewN | apply Kd.R_drew)); exact HO123.out) (Kd.R_base ho0) hb); have n5_ := Aside0.mk (Kd.R_lower (Kd.R_new' (Kd.R_new' (Kd.R_new' (Kd.R_new' ho0 (Kd.R_lt (by (with_reducible repeat (first | apply Kd.R_alloc | apply Kd.R_drewN | apply Kd.R_drew)); exact HO_0.out))) (Kd.R_lt (by (with_reducible repeat (first | apply Kd.R_alloc | apply Kd.R_drewN | apply Kd.R_drew)); exact HO_7.out))) (Kd.R_lt (by (with_reducible repeat (first | apply Kd.R_alloc | apply Kd.R_drewN | apply Kd.R_drew)); exact HO_8.out))) (Kd.R_lt (by (with_reducible repeat (first | apply Kd.R_alloc | apply Kd.R_drewN | apply Kd.R_drew)); exact HO123.out))) (below_size (by repeat (first | (with_reducible first | exact HB.out | apply below_alloc | apply pw_below_drewN | apply below_drew1) | exact HB.out)))); have n6_ := Aside0.mk (below_step (by repeat (first | (with_reducible first | exact HB.out | apply below_alloc | apply pw_below_drewN | apply below_drew1) | exact HB.out)) hb); clear HO_0; clear HO_7; clear HO_8; clear HO_9; clear HO123; clear HB; have HO_0 := n0_; have HO_7 := n1_; have HO_8 := n2_; have HO_9 := n3_; have HO123 := n4_; have HO127 := n5_; have HB := n6_; clear n0_ n1_ n2_ n3_ n4_ n5_ n6_; (try clear hb); (try clear hb2); (try clear hk); (try clear hi); (try clear ho0); obtain ⟨Ao50, co50, eo50⟩ := Kd.R_slice HO127.out; subst eo50) | (go_at_call 23; (with_reducible refine (abatisref14_Same.calls kj10 _ _ t125 _ _ t106 false _ ?side1 ?side2 ?side3 ?side4 A37.out).mono ?_); (case side1 => repeat (first | exact (Kd.R_reads' HO127.out).2.2 | (with_reducible refine Kd.C_alloc ?_ _) | (with_reducible refine Kd.C_drewN ?_ _) | (with_reducible refine Kd.C_drew ?_))); (case side2 => exact (Kd.R_reads' HO127.out).2.1); (case side3 => repeat (first | exact (Kd.R_reads' HO_7.out).2.2 | (with_reducible refine Kd.C_alloc ?_ _) | (with_reducible refine Kd.C_drewN ?_ _) | (with_reducible refine Kd.C_drew ?_))); (case side4 => exact (Kd.R_reads' HO_7.out).2.1); rintro e w' ⟨rfl, ⟨nd, rfl⟩⟩))
                go_ret
                exact ⟨by first | rfl | (simp [errW_none, errW_some] <;> rfl) | (simp [*, errW_none, errW_some] <;> rfl), by repeat (first | (with_reducible first | exact HB.out | apply below_alloc | apply pw_below_drewN | apply below_drew1) | exact HB.out)⟩
            · replace c35 := Bool.eq_false_iff.mpr c35
              subst c35
              have H1 : (some false) = some r := by rw [if_neg (show ¬ (false = true) by decide)] at H; exact H
              clear H
              have H := H1
              clear H1
              obtain rfl := Option.some.inj H
              obtain ⟨Ao51, co51, eo51⟩ := Kd.R_slice HO_9.out
              subst eo51
              have p120 : 0 ≤ (0 : Int) := (by omega)
              have q120 : 0 < (t112.length : Int) := of_decide_eq_true (by first | (with_reducible assumption) | assumption)
              obtain ⟨ad120, e120, hx120_0⟩ := Kd.at_string (Kd.R_reads' HO_9.out).2.2 0 p120 q120
              cases e120
              have qi120 : (0 < t112.length) = True := eq_true (by omega)
              (try rw [show ((0 : Int)).toNat = 0 from rfl] at hx120_0)
              (try rw [Addr.add_zero'] at hx120_0)
              replace p120 := eq_true p120
              replace q120 := eq_true q120
              go_wp2_with (first | (go_at_call 24; (with_reducible refine (abatisref14_Drop.calls kj10 _ _ t101 t104 t121 _ ?side1 ?side2 A33.out).mono ?_); (case side1 => repeat (first | exact (Kd.R_reads' HO_0.out).2.2 | (with_reducible refine Kd.C_alloc ?_ _) | (with_reducible refine Kd.C_drewN ?_ _) | (with_reducible refine Kd.C_drew ?_))); (case side2 => exact (Kd.R_reads' HO_0.out).2.1); rintro e w52 ⟨v122, rfl, ho0, hb⟩; have n0_ := Aside0.mk (Kd.R_elder' (by (with_reducible repeat (first | apply Kd.R_alloc | apply Kd.R_drewN | apply Kd.R_drew)); exact HO_0.out) (Kd.R_base ho0) hb); have n1_ := Aside0.mk (Kd.R_elder' (by (with_reducible repeat (first | apply Kd.R_alloc | apply Kd.R_drewN | apply Kd.R_drew)); exact HO_7.out) (Kd.R_base ho0) hb); have n2_ := Aside0.mk (Kd.R_elder' (by (with_reducible repeat (first | apply Kd.R_alloc | apply Kd.R_drewN | apply Kd.R_drew)); exact HO_8.out) (Kd.R_base ho0) hb); have n3_ := Aside0.mk (Kd.R_below (by (with_reducible repeat (first | apply Kd.R_alloc | apply Kd.R_drewN | apply Kd.R_drew)); exact HO_9.out) hb); have n4_ := Aside0.mk (Kd.R_lower (Kd.R_new' (Kd.R_new' (Kd.R_new' ho0 (Kd.R_lt (by (with_reducible repeat (first | apply Kd.R_alloc | apply Kd.R_drewN | apply Kd.R_drew)); exact HO_0.out))) (Kd.R_lt (by (with_reducible repeat (first | apply Kd.R_alloc | apply Kd.R_drewN | apply Kd.R_drew)); exact HO_7.out))) (Kd.R_lt (by (with_reducible repeat (first | apply Kd.R_alloc | apply Kd.R_drewN | apply Kd.R_drew)); exact HO_8.out))) (below_size (by repeat (first | (with_reducible first | exact HB.out | apply below_alloc | apply pw_below_drewN | apply below_drew1) | exact HB.out)))); have n5_ := Aside0.mk (below_step (by repeat (first | (with_reducible first | exact HB.out | apply below_alloc | apply pw_below_drewN | apply below_drew1) | exact HB.out)) hb); clear HO_0; clear HO_7; clear HO_8; clear HO_9; clear HB; have HO_0 := n0_; have HO_7 := n1_; have HO_8 := n2_; have HO_9 := n3_; have HO123 := n4_; have HB := n5_; clear n0_ n1_ n2_ n3_ n4_ n5_; (try clear hb); (try clear hb2); (try clear hk); (try clear hi); (try clear ho0); obtain ⟨Ao53, co53, eo53⟩ := Kd.R_slice HO123.out; subst eo53) | (go_at_call 23; (with_reducible refine (abatisref14_Same.calls kj10 _ _ t109 _ _ t121 false _ ?side1 ?side2 ?side3 ?side4 A34.out).mono ?_); (case side1 => repeat (first | exact (Kd.R_reads' HO_8.out).2.2 | (with_reducible refine Kd.C_alloc ?_ _) | (with_reducible refine Kd.C_drewN ?_ _) | (with_reducible refine Kd.C_drew ?_))); (case side2 => exact (Kd.R_reads' HO_8.out).2.1); (case side3 => repeat (first | exact (Kd.R_reads' HO123.out).2.2 | (with_reducible refine Kd.C_alloc ?_ _) | (with_reducible refine Kd.C_drewN ?_ _) | (with_reducible refine Kd.C_drew ?_))); (case side4 => exact (Kd.R_reads' HO123.out).2.1); rintro e w' ⟨rfl, ⟨nd, rfl⟩⟩))
              go_ret
              exact ⟨by first | rfl | (simp [errW_none, errW_some] <;> rfl) | (simp [*, errW_none, errW_some] <;> rfl), by repeat (first | (with_reducible first | exact HB.out | apply below_alloc | apply pw_below_drewN | apply below_drew1) | exact HB.out)⟩
          · rw [if_neg c32] at H
            have c32b0 : ((rdOf ByteArray.empty t112 0).toList == t105.toList) = false := beq_eq_false_iff_ne.mpr c32
            have c32b1 : ((rdOf ByteArray.empty t112 0).toList != t105.toList) = true := bne_iff_ne.mpr c32
            obtain rfl := Option.some.inj H
            obtain ⟨Ao54, co54, eo54⟩ := Kd.R_slice HO_9.out
            subst eo54
            have p120 : 0 ≤ (0 : Int) := (by omega)
            have q120 : 0 < (t112.length : Int) := of_decide_eq_true (by first | (with_reducible assumption) | assumption)
            obtain ⟨ad120, e120, hx120_0⟩ := Kd.at_string (Kd.R_reads' HO_9.out).2.2 0 p120 q120
            cases e120
            have qi120 : (0 < t112.length) = True := eq_true (by omega)
            (try rw [show ((0 : Int)).toNat = 0 from rfl] at hx120_0)
            (try rw [Addr.add_zero'] at hx120_0)
            replace p120 := eq_true p120
            replace q120 := eq_true q120
            go_wp2
            go_ret
            exact ⟨by first | rfl | (simp [errW_none, errW_some] <;> rfl) | (simp [*, errW_none, errW_some] <;> rfl), by repeat (first | (with_reducible first | exact HB.out | apply below_alloc | apply pw_below_drewN | apply below_drew1) | exact HB.out)⟩
        · rw [if_neg c31] at H
          exact absurd H (by simp)

/-- THE ONE PURE STATEMENT of abatislaw14_HeadSets. -/
def abatislaw14_HeadSets.Pure : Prop := ∀ (l0 : List (S26)) (a1 : ByteArray) (a2 : ByteArray), (l0.length ≤ 9223372036854775807 ∧ ∀ x_ ∈ l0, (x_.f0.size ≤ 9223372036854775807 ∧ x_.f1.size ≤ 9223372036854775807)) → a1.size ≤ 140737488351232 → a2.size ≤ 140737488351232 → ∃ k, abatislaw14_HeadSets.f k l0 a1 a2 = some true
-- EXT abatis/abatislaw14.HeadSets {"rounds": 1, "making": 1, "need": 1}

end Go.Proofs.YthjhbhgfckaklabDoor.P
