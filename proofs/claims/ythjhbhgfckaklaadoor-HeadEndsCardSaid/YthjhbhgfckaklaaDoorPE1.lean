-- PRINTED by pr.py (a driver round the kit's print program): not trusted, Lean checks it.
import Derived.Test.YthjhbhgfckaklaaDoorPb
import Derived.Test.YthjhbhgfckaklaaDoorStrs
import Derived.Test.YthjhbhgfckaklaaDoorPD2
import Derived.Test.YthjhbhgfckaklaaDoorPR1
import Derived.Test.YthjhbhgfckaklaaDoorPR2
namespace Go.Proofs.YthjhbhgfckaklaaDoor.P
open Go.RowKit Go.Proofs.YthjhbhgfckaklaaDoorW.PrintWords Go.Proofs.YthjhbhgfckaklaaDoorW.PrintLast Go.Proofs.YthjhbhgfckaklaaDoorW.PrintMore
attribute [local go_sem] max2_int min2_int max_two min_two max_three min_three max_four min_four   -- for this text's walks alone
set_option linter.unusedVariables false
set_option linter.unusedSimpArgs false

/-! ### abatislaw14_HeadEnds: function 7 -/
mutual
def abatislaw14_HeadEnds.j0 : Nat → Int → Int → Bool → Option (Bool)
  | 0, _, _, _ => none
  | k + 1, x2, x3, x56 => if x56 = true then (some false) else ((abatisref01_Around.f x2 131).bind fun t113 => (abatislaw14_HeadEnds.l0 k t113 x3 (⟨#[72, 84, 84, 80, 47, 49, 46, 48, 32, 53, 57, 57, 32, 120, 13, 10]⟩ : ByteArray) 0))
def abatislaw14_HeadEnds.l0 : Nat → Int → Int → ByteArray → Int → Option (Bool)
  | 0, _, _, _, _ => none
  | k + 1, x2, x3, x14, x15 => if x15 < x2 then (if x14.size + 4 ≤ 9223372036854775807 then (abatislaw14_HeadEnds.l0 k x2 x3 (x14 ++ (⟨#[97, 58, 13, 10]⟩ : ByteArray)) (wrap64 (x15 + 1))) else (none)) else (if x14.size + 2 ≤ 9223372036854775807 then ((head_Read.f k (x14 ++ (⟨#[13, 10]⟩ : ByteArray))).bind fun bt114 => (if ((bt114.2.2.2 == 0) != (decide (x2 ≤ 64))) = true then (abatislaw14_HeadEnds.j2 k x3 true) else (if bt114.2.2.2 = 0 then (abatislaw14_HeadEnds.j2 k x3 false) else (abatislaw14_HeadEnds.j2 k x3 (bt114.2.2.2 != 3))))) else (none))
def abatislaw14_HeadEnds.j2 : Nat → Int → Bool → Option (Bool)
  | 0, _, _ => none
  | k + 1, x3, x85 => if x85 = true then (some false) else ((abatisref01_Around.f x3 9001).bind fun t121 => (if 0 ≤ t121 then (if (t121 : Int).toNat ≤ 281474976710656 then (abatislaw14_HeadEnds.l1 k t121 (List.replicate (t121 : Int).toNat 0) 0) else (none)) else (none)))
def abatislaw14_HeadEnds.l1 : Nat → Int → List Int → Int → Option (Bool)
  | 0, _, _, _ => none
  | k + 1, x3, x19, x20 => if x20 < x3 then (if 0 ≤ x20 then (if x20 < (x19.length : Int) then (abatislaw14_HeadEnds.l1 k x3 (x19.set (x20 : Int).toNat 97) (wrap64 (x20 + 1))) else (none)) else (none)) else ((head_Read.f k (strOfNums x19)).bind fun bt126 => (if ((bt126.2.2.2 == 3) == (decide (x3 ≥ 8192))) = true then (if ((bt126.2.2.2 == 4) == (decide (x3 < 8192))) = true then ((abatislaw14_lives.f k).bind fun t133 => (some t133)) else (some false)) else (some false)))
end
def abatislaw14_HeadEnds.f (k : Nat) (l0 : List (S25)) (a1 : Int) (a2 : Int) (a3 : Int) : Option (Bool) := (abatisref14_Good.f k l0).bind fun t101 => ((abatisref14_Print.f k 200 t101).bind fun t104 => ((abatisref01_Around.f a1 (t104.size : Int)).bind fun t105 => (if 0 ≤ t105 then (if t105 ≤ (t104.size : Int) then ((head_Read.f k (t104.extract 0 (t105 : Int).toNat)).bind fun bt106 => (if bt106.1 = 0 then (if (bt106.2.1.length : Int) > 0 then (abatislaw14_HeadEnds.j0 k a2 a3 true) else (if bt106.2.2.1 = 0 then (abatislaw14_HeadEnds.j0 k a2 a3 (bt106.2.2.2 != 4)) else (abatislaw14_HeadEnds.j0 k a2 a3 true))) else (abatislaw14_HeadEnds.j0 k a2 a3 true))) else (none)) else (none))))
theorem abatislaw14_HeadEnds.mono_l : ∀ k, (∀ y0 y1 y2, LeO (abatislaw14_HeadEnds.j0 k y0 y1 y2) (abatislaw14_HeadEnds.j0 (k + 1) y0 y1 y2)) ∧ (∀ y0 y1 y2 y3, LeO (abatislaw14_HeadEnds.l0 k y0 y1 y2 y3) (abatislaw14_HeadEnds.l0 (k + 1) y0 y1 y2 y3)) ∧ (∀ y0 y1, LeO (abatislaw14_HeadEnds.j2 k y0 y1) (abatislaw14_HeadEnds.j2 (k + 1) y0 y1)) ∧ (∀ y0 y1 y2, LeO (abatislaw14_HeadEnds.l1 k y0 y1 y2) (abatislaw14_HeadEnds.l1 (k + 1) y0 y1 y2))
  | 0 => ⟨fun _ _ _ r h => by simp [abatislaw14_HeadEnds.j0] at h, fun _ _ _ _ r h => by simp [abatislaw14_HeadEnds.l0] at h, fun _ _ r h => by simp [abatislaw14_HeadEnds.j2] at h, fun _ _ _ r h => by simp [abatislaw14_HeadEnds.l1] at h⟩
  | k + 1 => by
    obtain ⟨ih0, ih1, ih2, ih3⟩ := abatislaw14_HeadEnds.mono_l k
    refine ⟨?_, ?_, ?_, ?_⟩
    · intro y0 y1 y2
      unfold abatislaw14_HeadEnds.j0
      repeat' first
      | (with_reducible exact ih0 _ _ _)
      | (with_reducible exact ih1 _ _ _ _)
      | (with_reducible exact ih2 _ _)
      | (with_reducible exact ih3 _ _ _)
      | (with_reducible exact abatislaw14_lives.mono _)
      | (with_reducible exact abatisref14_Good.mono _ _)
      | (with_reducible exact abatisref14_Print.mono _ _ _)
      | (with_reducible exact head_Read.mono _ _)
      | (with_reducible exact LeO.refl _)
      | (with_reducible exact LeO.none _)
      | (with_reducible refine LeO.ite ?_ ?_)
      | (with_reducible refine LeO.bind ?_ (fun _ => ?_))
      | exact ih0 _ _ _
      | exact ih1 _ _ _ _
      | exact ih2 _ _
      | exact ih3 _ _ _
      | exact abatislaw14_lives.mono _
      | exact abatisref14_Good.mono _ _
      | exact abatisref14_Print.mono _ _ _
      | exact head_Read.mono _ _
      | exact LeO.none _
      | refine LeO.ite ?_ ?_
      | refine LeO.bind ?_ (fun _ => ?_)
    · intro y0 y1 y2 y3
      unfold abatislaw14_HeadEnds.l0
      repeat' first
      | (with_reducible exact ih0 _ _ _)
      | (with_reducible exact ih1 _ _ _ _)
      | (with_reducible exact ih2 _ _)
      | (with_reducible exact ih3 _ _ _)
      | (with_reducible exact abatislaw14_lives.mono _)
      | (with_reducible exact abatisref14_Good.mono _ _)
      | (with_reducible exact abatisref14_Print.mono _ _ _)
      | (with_reducible exact head_Read.mono _ _)
      | (with_reducible exact LeO.refl _)
      | (with_reducible exact LeO.none _)
      | (with_reducible refine LeO.ite ?_ ?_)
      | (with_reducible refine LeO.bind ?_ (fun _ => ?_))
      | exact ih0 _ _ _
      | exact ih1 _ _ _ _
      | exact ih2 _ _
      | exact ih3 _ _ _
      | exact abatislaw14_lives.mono _
      | exact abatisref14_Good.mono _ _
      | exact abatisref14_Print.mono _ _ _
      | exact head_Read.mono _ _
      | exact LeO.none _
      | refine LeO.ite ?_ ?_
      | refine LeO.bind ?_ (fun _ => ?_)
    · intro y0 y1
      unfold abatislaw14_HeadEnds.j2
      repeat' first
      | (with_reducible exact ih0 _ _ _)
      | (with_reducible exact ih1 _ _ _ _)
      | (with_reducible exact ih2 _ _)
      | (with_reducible exact ih3 _ _ _)
      | (with_reducible exact abatislaw14_lives.mono _)
      | (with_reducible exact abatisref14_Good.mono _ _)
      | (with_reducible exact abatisref14_Print.mono _ _ _)
      | (with_reducible exact head_Read.mono _ _)
      | (with_reducible exact LeO.refl _)
      | (with_reducible exact LeO.none _)
      | (with_reducible refine LeO.ite ?_ ?_)
      | (with_reducible refine LeO.bind ?_ (fun _ => ?_))
      | exact ih0 _ _ _
      | exact ih1 _ _ _ _
      | exact ih2 _ _
      | exact ih3 _ _ _
      | exact abatislaw14_lives.mono _
      | exact abatisref14_Good.mono _ _
      | exact abatisref14_Print.mono _ _ _
      | exact head_Read.mono _ _
      | exact LeO.none _
      | refine LeO.ite ?_ ?_
      | refine LeO.bind ?_ (fun _ => ?_)
    · intro y0 y1 y2
      unfold abatislaw14_HeadEnds.l1
      repeat' first
      | (with_reducible exact ih0 _ _ _)
      | (with_reducible exact ih1 _ _ _ _)
      | (with_reducible exact ih2 _ _)
      | (with_reducible exact ih3 _ _ _)
      | (with_reducible exact abatislaw14_lives.mono _)
      | (with_reducible exact abatisref14_Good.mono _ _)
      | (with_reducible exact abatisref14_Print.mono _ _ _)
      | (with_reducible exact head_Read.mono _ _)
      | (with_reducible exact LeO.refl _)
      | (with_reducible exact LeO.none _)
      | (with_reducible refine LeO.ite ?_ ?_)
      | (with_reducible refine LeO.bind ?_ (fun _ => ?_))
      | exact ih0 _ _ _
      | exact ih1 _ _ _ _
      | exact ih2 _ _
      | exact ih3 _ _ _
      | exact abatislaw14_lives.mono _
      | exact abatisref14_Good.mono _ _
      | exact abatisref14_Print.mono _ _ _
      | exact head_Read.mono _ _
      | exact LeO.none _
      | refine LeO.ite ?_ ?_
      | refine LeO.bind ?_ (fun _ => ?_)
theorem abatislaw14_HeadEnds.mono : ∀ a0 a1 a2 a3 k, LeO (abatislaw14_HeadEnds.f k a0 a1 a2 a3) (abatislaw14_HeadEnds.f (k + 1) a0 a1 a2 a3) := by
  intro a0 a1 a2 a3 k
  obtain ⟨ih0, ih1, ih2, ih3⟩ := abatislaw14_HeadEnds.mono_l k
  unfold abatislaw14_HeadEnds.f
  repeat' first
      | (with_reducible exact ih0 _ _ _)
      | (with_reducible exact ih1 _ _ _ _)
      | (with_reducible exact ih2 _ _)
      | (with_reducible exact ih3 _ _ _)
      | (with_reducible exact abatislaw14_lives.mono _)
      | (with_reducible exact abatisref14_Good.mono _ _)
      | (with_reducible exact abatisref14_Print.mono _ _ _)
      | (with_reducible exact head_Read.mono _ _)
      | (with_reducible exact LeO.refl _)
      | (with_reducible exact LeO.none _)
      | (with_reducible refine LeO.ite ?_ ?_)
      | (with_reducible refine LeO.bind ?_ (fun _ => ?_))
      | exact ih0 _ _ _
      | exact ih1 _ _ _ _
      | exact ih2 _ _
      | exact ih3 _ _ _
      | exact abatislaw14_lives.mono _
      | exact abatisref14_Good.mono _ _
      | exact abatisref14_Print.mono _ _ _
      | exact head_Read.mono _ _
      | exact LeO.none _
      | refine LeO.ite ?_ ?_
      | refine LeO.bind ?_ (fun _ => ?_)
set_option maxHeartbeats 8000000 in
set_option maxRecDepth 100000 in
theorem abatislaw14_HeadEnds.calls (k : Nat) (A0 : Option Addr) (c0 : Nat) (l0 : List (S25)) (a1 : Int) (a2 : Int) (a3 : Int) (r : Bool) (w : World) (hmx : MaxIs w) (hr0 : Kd.C k25 w A0 l0.length l0) (hc0 : l0.length ≤ c0) (h : abatislaw14_HeadEnds.f k l0 a1 a2 a3 = some r) :
    Calls Tryd.prog 7 #[.slice A0 l0.length c0, .int .i64 a1, .int .i64 a2, .int .i64 a3] w fun e w' => e = .returned (.bool r) ∧ Below w.heap.size w w' := by
  have hu67 := Tryd.underlying67
  have HR0 := Aside0.mk hr0
  have HC0 := Aside0.mk hc0
  clear hr0 hc0
  have HB := Aside0.mk (Below.refl w.heap.size w)
  have HMX := Aside0.mk hmx
  clear hmx
  have H : ((abatisref14_Good.f k l0).bind fun t101 => ((abatisref14_Print.f k 200 t101).bind fun t104 => ((abatisref01_Around.f a1 (t104.size : Int)).bind fun t105 => (if 0 ≤ t105 then (if t105 ≤ (t104.size : Int) then ((head_Read.f k (t104.extract 0 (t105 : Int).toNat)).bind fun bt106 => (if bt106.1 = 0 then (if (bt106.2.1.length : Int) > 0 then (abatislaw14_HeadEnds.j0 k a2 a3 true) else (if bt106.2.2.1 = 0 then (abatislaw14_HeadEnds.j0 k a2 a3 (bt106.2.2.2 != 4)) else (abatislaw14_HeadEnds.j0 k a2 a3 true))) else (abatislaw14_HeadEnds.j0 k a2 a3 true))) else (none)) else (none))))) = some r := h
  clear h
  replace H := Option.bind_eq_some_iff.mp H
  obtain ⟨t101, A50, H⟩ := H
  replace H : ((abatisref14_Print.f k 200 t101).bind fun t104 => ((abatisref01_Around.f a1 (t104.size : Int)).bind fun t105 => (if 0 ≤ t105 then (if t105 ≤ (t104.size : Int) then ((head_Read.f k (t104.extract 0 (t105 : Int).toNat)).bind fun bt106 => (if bt106.1 = 0 then (if (bt106.2.1.length : Int) > 0 then (abatislaw14_HeadEnds.j0 k a2 a3 true) else (if bt106.2.2.1 = 0 then (abatislaw14_HeadEnds.j0 k a2 a3 (bt106.2.2.2 != 4)) else (abatislaw14_HeadEnds.j0 k a2 a3 true))) else (abatislaw14_HeadEnds.j0 k a2 a3 true))) else (none)) else (none)))) = some r := H
  have A5 := Aside0.mk A50
  clear A50
  replace H := Option.bind_eq_some_iff.mp H
  obtain ⟨t104, A60, H⟩ := H
  replace H : ((abatisref01_Around.f a1 (t104.size : Int)).bind fun t105 => (if 0 ≤ t105 then (if t105 ≤ (t104.size : Int) then ((head_Read.f k (t104.extract 0 (t105 : Int).toNat)).bind fun bt106 => (if bt106.1 = 0 then (if (bt106.2.1.length : Int) > 0 then (abatislaw14_HeadEnds.j0 k a2 a3 true) else (if bt106.2.2.1 = 0 then (abatislaw14_HeadEnds.j0 k a2 a3 (bt106.2.2.2 != 4)) else (abatislaw14_HeadEnds.j0 k a2 a3 true))) else (abatislaw14_HeadEnds.j0 k a2 a3 true))) else (none)) else (none))) = some r := H
  have A6 := Aside0.mk A60
  clear A60
  replace H := Option.bind_eq_some_iff.mp H
  obtain ⟨t105, A70, H⟩ := H
  replace H : (if 0 ≤ t105 then (if t105 ≤ (t104.size : Int) then ((head_Read.f k (t104.extract 0 (t105 : Int).toNat)).bind fun bt106 => (if bt106.1 = 0 then (if (bt106.2.1.length : Int) > 0 then (abatislaw14_HeadEnds.j0 k a2 a3 true) else (if bt106.2.2.1 = 0 then (abatislaw14_HeadEnds.j0 k a2 a3 (bt106.2.2.2 != 4)) else (abatislaw14_HeadEnds.j0 k a2 a3 true))) else (abatislaw14_HeadEnds.j0 k a2 a3 true))) else (none)) else (none)) = some r := H
  have A7 := Aside0.mk A70
  clear A70
  by_cases c8 : 0 ≤ t105
  · rw [if_pos c8] at H
    have c8b0 := eq_true c8
    have c8b1 : decide (0 ≤ t105) = true := decide_eq_true c8
    clear c8
    by_cases c9 : t105 ≤ (t104.size : Int)
    · rw [if_pos c9] at H
      have c9b0 := eq_true c9
      have c9b1 : decide (t105 ≤ (t104.size : Int)) = true := decide_eq_true c9
      clear c9
      replace H := Option.bind_eq_some_iff.mp H
      obtain ⟨⟨t106, t107, t110, t111⟩, A100, H⟩ := H
      replace H : (if t106 = 0 then (if (t107.length : Int) > 0 then (abatislaw14_HeadEnds.j0 k a2 a3 true) else (if t110 = 0 then (abatislaw14_HeadEnds.j0 k a2 a3 (t111 != 4)) else (abatislaw14_HeadEnds.j0 k a2 a3 true))) else (abatislaw14_HeadEnds.j0 k a2 a3 true)) = some r := H
      have A10 := Aside0.mk A100
      clear A100
      have HC11 := Aside0.mk H
      clear H
      go_enter Tryd.func7, Tryd.ntmps7
      go_upto_region 4 with (first | ((with_reducible refine gate_callee (f := 32) rfl ?_); refine goesL_ (some 25) rfl rfl Tryd.func32 (by kernel_rfl) rfl #[.slice A0 l0.length c0] rfl (by (try simp only [List.map_toArray, List.map_cons, List.map_nil]); first | done | rfl | (simp only [List.length_drop, List.length_take]; rfl)) ?_; (with_reducible refine (abatisref14_Good.calls k _ _ l0 t101 _ ?side1 ?side2 A5.out).mono ?_); (case side1 => repeat (first | exact HR0.out | (with_reducible refine Kd.C_alloc ?_ _) | (with_reducible refine Kd.C_drewN ?_ _) | (with_reducible refine Kd.C_drew ?_))); (case side2 => exact HC0.out); rintro e w12 ⟨v102, rfl, ho0, hb⟩; refine ⟨_, rfl, ?_⟩; have n0_ := Aside0.mk (Kd.R_lower ho0 (below_size (by repeat (first | (with_reducible first | exact HB.out | apply below_alloc | apply pw_below_drewN | apply below_drew1) | exact HB.out)))); have n1_ := Aside0.mk (below_step (by repeat (first | (with_reducible first | exact HB.out | apply below_alloc | apply pw_below_drewN | apply below_drew1) | exact HB.out)) hb); clear HB; have HO103 := n0_; have HB := n1_; clear n0_ n1_; (try clear hb); (try clear hb2); (try clear hk); (try clear hi); (try clear ho0); obtain ⟨Ao13, co13, eo13⟩ := Kd.R_slice HO103.out; subst eo13) | ((with_reducible refine gate_callee (f := 31) rfl ?_); refine goesL_ (some 27) rfl rfl Tryd.func31 (by kernel_rfl) rfl #[.agg #[.int .i64 200, .slice Ao13 t101.length co13]] rfl (by (try simp only [List.map_toArray, List.map_cons, List.map_nil]); first | done | rfl | (simp only [List.length_drop, List.length_take]; rfl)) ?_; (with_reducible refine (abatisref14_Print.calls k 200 _ _ t101 t104 _ ?side1 ?side2 A6.out).mono ?_); (case side1 => repeat (first | exact (Kd.R_reads' HO103.out).2.2 | (with_reducible refine Kd.C_alloc ?_ _) | (with_reducible refine Kd.C_drewN ?_ _) | (with_reducible refine Kd.C_drew ?_))); (case side2 => exact (Kd.R_reads' HO103.out).2.1); rintro e w14 ⟨rfl, hb⟩; refine ⟨_, rfl, ?_⟩; have n0_ := Aside0.mk (Kd.R_below (by (with_reducible repeat (first | apply Kd.R_alloc | apply Kd.R_drewN | apply Kd.R_drew)); exact HO103.out) hb); have n1_ := Aside0.mk (below_step (by repeat (first | (with_reducible first | exact HB.out | apply below_alloc | apply pw_below_drewN | apply below_drew1) | exact HB.out)) hb); clear HO103; clear HB; have HO103 := n0_; have HB := n1_; clear n0_ n1_; (try clear hb); (try clear hb2); (try clear hk); (try clear hi)) | ((with_reducible refine gate_callee (f := 28) rfl ?_); refine goesL_ (some 31) rfl rfl Tryd.func28 (by kernel_rfl) rfl #[.int .i64 a1, .int .i64 (t104.size : Int)] rfl (by (try simp only [List.map_toArray, List.map_cons, List.map_nil]); first | done | rfl | (simp only [List.length_drop, List.length_take]; rfl)) ?_; (with_reducible refine (abatisref01_Around.calls a1 (t104.size : Int) t105 _ A7.out).mono ?_); rintro e w' ⟨rfl, ⟨nd, rfl⟩⟩; refine ⟨_, rfl, ?_⟩; (try (rw [drewN_self w14]; generalize hq_ : World.drewN w14 _ = w14; have n0_ : Aside0 (Kd.R k25 25 w14 w.heap.size (fun _ => True) (.slice Ao13 t101.length co13) t101) := ⟨by rw [← hq_]; exact (by (with_reducible repeat (first | apply Kd.R_alloc | apply Kd.R_drewN | apply Kd.R_drew)); exact HO103.out)⟩; have n1_ : Aside0 (Below w.heap.size w w14) := ⟨by rw [← hq_]; exact (by repeat (first | (with_reducible first | exact HB.out | apply below_alloc | apply pw_below_drewN | apply below_drew1) | exact HB.out))⟩; clear HO103 HB hq_; have HO103 := n0_; have HB := n1_; clear n0_ n1_))) | ((with_reducible refine gate_callee (f := 33) rfl ?_); refine goesL_ (some 36) rfl rfl Tryd.func33 (by kernel_rfl) rfl #[.string (t104.extract 0 (t105 : Int).toNat)] rfl (by (try simp only [List.map_toArray, List.map_cons, List.map_nil]); first | done | rfl | (simp only [List.length_drop, List.length_take]; rfl)) ?_; (with_reducible refine (head_Read.calls k (t104.extract 0 (t105 : Int).toNat) t106 t107 t110 t111 _ (maxis_below HMX.out (by repeat (first | (with_reducible first | exact HB.out | apply below_alloc | apply pw_below_drewN | apply below_drew1) | exact HB.out | (refine Below.setCell ?_ ?_ _) | (first | exact GW112.out | exact GW120.out | exact GW132.out)))) A10.out).mono ?_); rintro e w15 ⟨v108, rfl, ho0, hb⟩; refine ⟨_, rfl, ?_⟩; have n0_ := Aside0.mk (Kd.R_elder' (by (with_reducible repeat (first | apply Kd.R_alloc | apply Kd.R_drewN | apply Kd.R_drew)); exact HO103.out) (Kd.R_base ho0) hb); have n1_ := Aside0.mk (Kd.R_lower (Kd.R_new' ho0 (Kd.R_lt (by (with_reducible repeat (first | apply Kd.R_alloc | apply Kd.R_drewN | apply Kd.R_drew)); exact HO103.out))) (below_size (by repeat (first | (with_reducible first | exact HB.out | apply below_alloc | apply pw_below_drewN | apply below_drew1) | exact HB.out)))); have n2_ := Aside0.mk (below_step (by repeat (first | (with_reducible first | exact HB.out | apply below_alloc | apply pw_below_drewN | apply below_drew1) | exact HB.out)) hb); clear HO103; clear HB; have HO103 := n0_; have HO109 := n1_; have HB := n2_; clear n0_ n1_ n2_; (try clear hb); (try clear hb2); (try clear hk); (try clear hi); (try clear ho0)) | ((with_reducible refine gate_dst (N := 11) rfl ?_); (try (refine gate_guard (by rfl) ?_; dsimp only)); refine box_event ?hg (N := 11) ?hd (cs := #[.int .i64 0, .slice none 0 0]) (t := 67) ?hr ?_; (case hd => rfl); (case hg => rfl); (case hr => first | (go_simp; done) | (go_simp; rfl)); intro gb112 hg w16 hbox hb; have n0_ := Aside0.mk (Kd.R_below (by (with_reducible repeat (first | apply Kd.R_alloc | apply Kd.R_drewN | apply Kd.R_drew)); exact HO103.out) hb); have n1_ := Aside0.mk (Kd.R_below (by (with_reducible repeat (first | apply Kd.R_alloc | apply Kd.R_drewN | apply Kd.R_drew)); exact HO109.out) hb); have n2_ := Aside0.mk (below_step (by repeat (first | (with_reducible first | exact HB.out | apply below_alloc | apply pw_below_drewN | apply below_drew1) | exact HB.out)) hb); have n3_ := Aside0.mk (hbox); have n4_ := Aside0.mk ((by rw [hg]; exact (below_size (by repeat (first | (with_reducible first | exact HB.out | apply below_alloc | apply pw_below_drewN | apply below_drew1) | exact HB.out))) : w.heap.size ≤ gb112)); have n5_ := Aside0.mk ((by rw [hg]; exact (below_size (by repeat (first | (with_reducible first | exact HB.out | apply below_alloc | apply pw_below_drewN | apply below_drew1) | exact HB.out))) : w.heap.size ≤ gb112)); clear HO103; clear HO109; clear HB; have HO103 := n0_; have HO109 := n1_; have HB := n2_; have BK112 := n3_; have GW112 := n4_; have GE112 := n5_; clear n0_ n1_ n2_ n3_ n4_ n5_; clear hb hbox hg; have hcz17_0 : w16.cell? ⟨gb112, 0, none⟩ = some (.int .i64 0) := (blk_cell BK112.out 0).trans rfl; have hcz17_1 : w16.cell? ⟨gb112, 1, none⟩ = some (.slice none 0 0) := (blk_cell BK112.out 1).trans rfl; have hfz17_0 := blk_frozen BK112.out 0; have hfz17_1 := blk_frozen BK112.out 1; obtain ⟨Ao18, co18, eo18⟩ := Kd.R_slice HO109.out; subst eo18))
      (try simp only [Act.put, List.setIfInBounds_toArray, List.set_cons_zero, List.set_cons_succ])
      go_cut [56] (fun v56 wc => ∃ (kq : Nat) (x56_10 : Bool), v56 = .bool x56_10 ∧ Aside0 (abatislaw14_HeadEnds.j0 kq a2 a3 x56_10 = some r) ∧ Aside0 (kq ≤ k) ∧ Aside0 (Kd.R k25 25 wc w.heap.size (fun _ => True) (.slice Ao18 t107.length co18) t107) ∧ Aside0 (wc.heap[gb112]? = some (.cells #[.int .i64 t106, (.slice Ao18 t107.length co18)] 67 (0, 0))) ∧ Aside0 (Below w.heap.size w wc))
      case first =>
        have H := HC11.out
        clear HC11
        by_cases c19 : t106 = 0
        · rw [if_pos c19] at H
          have c19b0 : (t106 == 0) = true := beq_iff_eq.mpr c19
          have c19b1 : (t106 != 0) = false := bne_eq_false_iff_eq.mpr c19
          clear c19
          (first | rw [c19b0] | (simp only [i64_w, i32_w]; rw [c19b0]) | skip)
          by_cases c20 : (t107.length : Int) > 0
          · rw [if_pos c20] at H
            have c20b0 : decide (0 < (t107.length : Int)) = true := decide_eq_true c20
            have c20b1 : decide (0 < t107.length) = true := decide_eq_true (by omega)
            clear c20
            have H' := Aside0.mk H
            clear H
            have hcz21_0 : w16.cell? ⟨gb112, 0, none⟩ = some (.int .i64 0) := (blk_cell BK112.out 0).trans rfl
            have hcz21_1 : w16.cell? ⟨gb112, 1, none⟩ = some (.slice none 0 0) := (blk_cell BK112.out 1).trans rfl
            have hfz21_0 := blk_frozen BK112.out 0
            have hfz21_1 := blk_frozen BK112.out 1
            go_wp2
            go_meet
            case rel => exact ⟨_, (true), (by first | rfl | (simp; done) | (simp [*]; done) | (simp [bne]; done) | (simp [bne, *]; done)), H', ⟨by first | omega | exact Nat.le_refl _⟩, ⟨by (with_reducible repeat (first | apply Kd.R_alloc | apply Kd.R_drewN | apply Kd.R_drew)); exact Kd.R_mono (Kd.R_far (p := ⟨gb112, 1, none⟩) (Kd.R_far (p := ⟨gb112, 0, none⟩) (Kd.R_types HO109.out BK112.out (by decide)) (fun _ hk => hk.2) (.int .i64 t106)) (fun _ hk => hk.2) (.slice Ao18 t107.length co18)) (fun _ hk => trivial)⟩, ⟨by (with_reducible repeat (first | refine blk_drewN ?_ _ | refine blk_drew ?_ | refine blk_alloc ?_ _)); refine blk_put (cs := #[.int .i64 t106, .slice none 0 0]) ?_ 1 _ rfl; (with_reducible repeat (first | refine blk_drewN ?_ _ | refine blk_drew ?_ | refine blk_alloc ?_ _)); refine blk_put (cs := #[.int .i64 0, .slice none 0 0]) ?_ 0 _ rfl; (with_reducible repeat (first | refine blk_drewN ?_ _ | refine blk_drew ?_ | refine blk_alloc ?_ _)); exact BK112.out⟩, ⟨by repeat (first | (with_reducible first | exact HB.out | apply below_alloc | apply pw_below_drewN | apply below_drew1 | refine below_set ?_ GE112.out) | exact HB.out)⟩⟩
          · rw [if_neg c20] at H
            have c20b0 : decide (0 < (t107.length : Int)) = false := decide_eq_false c20
            have c20b1 : decide (0 < t107.length) = false := decide_eq_false (by omega)
            clear c20
            by_cases c22 : t110 = 0
            · rw [if_pos c22] at H
              have c22b0 : (t110 == 0) = true := beq_iff_eq.mpr c22
              have c22b1 : (t110 != 0) = false := bne_eq_false_iff_eq.mpr c22
              clear c22
              have H' := Aside0.mk H
              clear H
              have hcz23_0 : w16.cell? ⟨gb112, 0, none⟩ = some (.int .i64 0) := (blk_cell BK112.out 0).trans rfl
              have hcz23_1 : w16.cell? ⟨gb112, 1, none⟩ = some (.slice none 0 0) := (blk_cell BK112.out 1).trans rfl
              have hfz23_0 := blk_frozen BK112.out 0
              have hfz23_1 := blk_frozen BK112.out 1
              go_wp2
              go_meet
              case rel => exact ⟨_, ((t111 != 4)), (by first | rfl | (simp; done) | (simp [*]; done) | (simp [bne]; done) | (simp [bne, *]; done)), H', ⟨by first | omega | exact Nat.le_refl _⟩, ⟨by (with_reducible repeat (first | apply Kd.R_alloc | apply Kd.R_drewN | apply Kd.R_drew)); exact Kd.R_mono (Kd.R_far (p := ⟨gb112, 1, none⟩) (Kd.R_far (p := ⟨gb112, 0, none⟩) (Kd.R_types HO109.out BK112.out (by decide)) (fun _ hk => hk.2) (.int .i64 t106)) (fun _ hk => hk.2) (.slice Ao18 t107.length co18)) (fun _ hk => trivial)⟩, ⟨by (with_reducible repeat (first | refine blk_drewN ?_ _ | refine blk_drew ?_ | refine blk_alloc ?_ _)); refine blk_put (cs := #[.int .i64 t106, .slice none 0 0]) ?_ 1 _ rfl; (with_reducible repeat (first | refine blk_drewN ?_ _ | refine blk_drew ?_ | refine blk_alloc ?_ _)); refine blk_put (cs := #[.int .i64 0, .slice none 0 0]) ?_ 0 _ rfl; (with_reducible repeat (first | refine blk_drewN ?_ _ | refine blk_drew ?_ | refine blk_alloc ?_ _)); exact BK112.out⟩, ⟨by repeat (first | (with_reducible first | exact HB.out | apply below_alloc | apply pw_below_drewN | apply below_drew1 | refine below_set ?_ GE112.out) | exact HB.out)⟩⟩
            · rw [if_neg c22] at H
              have c22b0 : (t110 == 0) = false := beq_eq_false_iff_ne.mpr c22
              have c22b1 : (t110 != 0) = true := bne_iff_ne.mpr c22
              have H' := Aside0.mk H
              clear H
              have hcz24_0 : w16.cell? ⟨gb112, 0, none⟩ = some (.int .i64 0) := (blk_cell BK112.out 0).trans rfl
              have hcz24_1 : w16.cell? ⟨gb112, 1, none⟩ = some (.slice none 0 0) := (blk_cell BK112.out 1).trans rfl
              have hfz24_0 := blk_frozen BK112.out 0
              have hfz24_1 := blk_frozen BK112.out 1
              go_wp2
              go_meet
              case rel => exact ⟨_, (true), (by first | rfl | (simp; done) | (simp [*]; done) | (simp [bne]; done) | (simp [bne, *]; done)), H', ⟨by first | omega | exact Nat.le_refl _⟩, ⟨by (with_reducible repeat (first | apply Kd.R_alloc | apply Kd.R_drewN | apply Kd.R_drew)); exact Kd.R_mono (Kd.R_far (p := ⟨gb112, 1, none⟩) (Kd.R_far (p := ⟨gb112, 0, none⟩) (Kd.R_types HO109.out BK112.out (by decide)) (fun _ hk => hk.2) (.int .i64 t106)) (fun _ hk => hk.2) (.slice Ao18 t107.length co18)) (fun _ hk => trivial)⟩, ⟨by (with_reducible repeat (first | refine blk_drewN ?_ _ | refine blk_drew ?_ | refine blk_alloc ?_ _)); refine blk_put (cs := #[.int .i64 t106, .slice none 0 0]) ?_ 1 _ rfl; (with_reducible repeat (first | refine blk_drewN ?_ _ | refine blk_drew ?_ | refine blk_alloc ?_ _)); refine blk_put (cs := #[.int .i64 0, .slice none 0 0]) ?_ 0 _ rfl; (with_reducible repeat (first | refine blk_drewN ?_ _ | refine blk_drew ?_ | refine blk_alloc ?_ _)); exact BK112.out⟩, ⟨by repeat (first | (with_reducible first | exact HB.out | apply below_alloc | apply pw_below_drewN | apply below_drew1 | refine below_set ?_ GE112.out) | exact HB.out)⟩⟩
        · rw [if_neg c19] at H
          have c19b0 : (t106 == 0) = false := beq_eq_false_iff_ne.mpr c19
          have c19b1 : (t106 != 0) = true := bne_iff_ne.mpr c19
          (first | rw [c19b0] | (simp only [i64_w, i32_w]; rw [c19b0]) | skip)
          have H' := Aside0.mk H
          clear H
          have hcz25_0 : w16.cell? ⟨gb112, 0, none⟩ = some (.int .i64 0) := (blk_cell BK112.out 0).trans rfl
          have hcz25_1 : w16.cell? ⟨gb112, 1, none⟩ = some (.slice none 0 0) := (blk_cell BK112.out 1).trans rfl
          have hfz25_0 := blk_frozen BK112.out 0
          have hfz25_1 := blk_frozen BK112.out 1
          go_wp2
          go_meet
          case rel => exact ⟨_, (true), (by first | rfl | (simp; done) | (simp [*]; done) | (simp [bne]; done) | (simp [bne, *]; done)), H', ⟨by first | omega | exact Nat.le_refl _⟩, ⟨by (with_reducible repeat (first | apply Kd.R_alloc | apply Kd.R_drewN | apply Kd.R_drew)); exact Kd.R_mono (Kd.R_far (p := ⟨gb112, 1, none⟩) (Kd.R_far (p := ⟨gb112, 0, none⟩) (Kd.R_types HO109.out BK112.out (by decide)) (fun _ hk => hk.2) (.int .i64 t106)) (fun _ hk => hk.2) (.slice Ao18 t107.length co18)) (fun _ hk => trivial)⟩, ⟨by (with_reducible repeat (first | refine blk_drewN ?_ _ | refine blk_drew ?_ | refine blk_alloc ?_ _)); refine blk_put (cs := #[.int .i64 t106, .slice none 0 0]) ?_ 1 _ rfl; (with_reducible repeat (first | refine blk_drewN ?_ _ | refine blk_drew ?_ | refine blk_alloc ?_ _)); refine blk_put (cs := #[.int .i64 0, .slice none 0 0]) ?_ 0 _ rfl; (with_reducible repeat (first | refine blk_drewN ?_ _ | refine blk_drew ?_ | refine blk_alloc ?_ _)); exact BK112.out⟩, ⟨by repeat (first | (with_reducible first | exact HB.out | apply below_alloc | apply pw_below_drewN | apply below_drew1 | refine below_set ?_ GE112.out) | exact HB.out)⟩⟩
      case rest =>
        clear HC11
        try clear c1
        try clear c2
        try clear p2
        try clear c3
        try clear c7
        try clear c8
        try clear c8b0
        try clear c8b1
        try clear c9
        try clear c9b0
        try clear c9b1
        try clear c19
        try clear c19b0
        try clear c19b1
        try clear c20
        try clear c20b0
        try clear c20b1
        try clear c22
        try clear c22b0
        try clear c22b1
        try clear hcz17_0
        try clear hcz17_1
        try clear hcz21_0
        try clear hcz21_1
        try clear hcz23_0
        try clear hcz23_1
        try clear hcz24_0
        try clear hcz24_1
        try clear hcz25_0
        try clear hcz25_1
        try clear hfz17_0
        try clear hfz17_1
        try clear hfz21_0
        try clear hfz21_1
        try clear hfz23_0
        try clear hfz23_1
        try clear hfz24_0
        try clear hfz24_1
        try clear hfz25_0
        try clear hfz25_1
        obtain ⟨kq, x56_10, rfl, HA, HJ10, HO_113001, BK112, HB⟩ := hcut
        cases kq with
        | zero => exact absurd HA.out (by simp [abatislaw14_HeadEnds.j0])
        | succ kj10 =>
          have H := HA.out
          clear HA
          simp only [abatislaw14_HeadEnds.j0] at H
          by_cases c26 : x56_10 = true
          · subst c26
            have H1 : (some false) = some r := by rw [if_pos rfl] at H; exact H
            clear H
            have H := H1
            clear H1
            obtain rfl := Option.some.inj H
            go_wp2
            go_ret
            exact ⟨by first | rfl | (simp [errW_none, errW_some] <;> rfl) | (simp [*, errW_none, errW_some] <;> rfl), by repeat (first | (with_reducible first | exact HB.out | apply below_alloc | apply pw_below_drewN | apply below_drew1 | refine below_set ?_ GE112.out) | exact HB.out)⟩
          · replace c26 := Bool.eq_false_iff.mpr c26
            subst c26
            have H1 : ((abatisref01_Around.f a2 131).bind fun t113 => (abatislaw14_HeadEnds.l0 kj10 t113 a3 (⟨#[72, 84, 84, 80, 47, 49, 46, 48, 32, 53, 57, 57, 32, 120, 13, 10]⟩ : ByteArray) 0)) = some r := by rw [if_neg (show ¬ (false = true) by decide)] at H; exact H
            clear H
            have H := H1
            clear H1
            replace H := Option.bind_eq_some_iff.mp H
            obtain ⟨t113, A270, H⟩ := H
            replace H : (abatislaw14_HeadEnds.l0 kj10 t113 a3 (⟨#[72, 84, 84, 80, 47, 49, 46, 48, 32, 53, 57, 57, 32, 120, 13, 10]⟩ : ByteArray) 0) = some r := H
            have A27 := Aside0.mk A270
            clear A270
            have H' := Aside0.mk H
            clear H
            go_wp2_with (first | ((with_reducible refine gate_callee (f := 28) rfl ?_); refine goesL_ (some 58) rfl rfl Tryd.func28 (by kernel_rfl) rfl #[.int .i64 a2, .int .i64 131] rfl (by (try simp only [List.map_toArray, List.map_cons, List.map_nil]); first | done | rfl | (simp only [List.length_drop, List.length_take]; rfl)) ?_; (with_reducible refine (abatisref01_Around.calls a2 131 t113 _ A27.out).mono ?_); rintro e w' ⟨rfl, ⟨nd, rfl⟩⟩; refine ⟨_, rfl, ?_⟩))
            go_loopg [14, 15] kj10 (fun kq v14 v15 w' => ∃ (x14_2 : ByteArray) (x15_2 : Int), v14 = .string x14_2 ∧ v15 = .int .i64 x15_2 ∧ Aside0 (abatislaw14_HeadEnds.l0 kq t113 a3 x14_2 x15_2 = some r) ∧ Aside0 (kq ≤ kj10) ∧ Aside0 (Kd.R k25 25 w' w.heap.size (fun _ => True) (.slice Ao18 t107.length co18) t107) ∧ Aside0 (w'.heap[gb112]? = some (.cells #[.int .i64 t106, (.slice Ao18 t107.length co18)] 67 (0, 0))) ∧ Aside0 (Below w.heap.size w w'))
            case atStart => exact ⟨((⟨#[72, 84, 84, 80, 47, 49, 46, 48, 32, 53, 57, 57, 32, 120, 13, 10]⟩ : ByteArray)), (0), (by first | rfl | (simp; done) | (simp [*]; done) | (simp [bne]; done) | (simp [bne, *]; done)), (by first | rfl | (simp; done) | (simp [*]; done) | (simp [bne]; done) | (simp [bne, *]; done)), H', ⟨Nat.le_refl _⟩, ⟨by (with_reducible repeat (first | apply Kd.R_alloc | apply Kd.R_drewN | apply Kd.R_drew)); exact HO_113001.out⟩, ⟨by (with_reducible repeat (first | refine blk_drewN ?_ _ | refine blk_drew ?_ | refine blk_alloc ?_ _)); exact BK112.out⟩, ⟨by repeat (first | (with_reducible first | exact HB.out | apply below_alloc | apply pw_below_drewN | apply below_drew1 | refine below_set ?_ GE112.out) | exact HB.out)⟩⟩
            case round =>
              clear H'
              try clear c1
              try clear c2
              try clear p2
              try clear c3
              try clear c7
              try clear c8
              try clear c8b0
              try clear c8b1
              try clear c9
              try clear c9b0
              try clear c9b1
              try clear c19
              try clear c19b0
              try clear c19b1
              try clear c20
              try clear c20b0
              try clear c20b1
              try clear c22
              try clear c22b0
              try clear c22b1
              try clear c26
              try clear hcz17_0
              try clear hcz17_1
              try clear hcz21_0
              try clear hcz21_1
              try clear hcz23_0
              try clear hcz23_1
              try clear hcz24_0
              try clear hcz24_1
              try clear hcz25_0
              try clear hcz25_1
              try clear hfz17_0
              try clear hfz17_1
              try clear hfz21_0
              try clear hfz21_1
              try clear hfz23_0
              try clear hfz23_1
              try clear hfz24_0
              try clear hfz24_1
              try clear hfz25_0
              try clear hfz25_1
              try clear p2
              obtain ⟨x14_2, x15_2, rfl, rfl, HA, HK2, HO_113001, BK112, HB⟩ := hrel
              cases gk with
              | zero => exact absurd HA.out (by simp [abatislaw14_HeadEnds.l0])
              | succ k2 =>
                have H := HA.out
                clear HA
                simp only [abatislaw14_HeadEnds.l0] at H
                by_cases c28 : x15_2 < t113
                · rw [if_pos c28] at H
                  have c28b0 : decide (x15_2 < t113) = true := decide_eq_true c28
                  clear c28
                  by_cases c29 : x14_2.size + 4 ≤ 9223372036854775807
                  · rw [if_pos c29] at H
                    have c29b0 := eq_true c29
                    have c29b1 : decide (x14_2.size + 4 ≤ 9223372036854775807) = true := decide_eq_true c29
                    try have c29b2 : (9223372036854775807 < x14_2.size + 4) = False := eq_false (Nat.not_lt.2 c29)
                    have H' := Aside0.mk H
                    clear H
                    go_wp2
                    go_roundg k2
                    case measure => have := HJ10.out; have := HK2.out; omega
                    case rel => exact ⟨(x14_2 ++ (⟨#[97, 58, 13, 10]⟩ : ByteArray)), (wrap64 (x15_2 + 1)), (by first | rfl | (simp; done) | (simp [*]; done) | (simp [bne]; done) | (simp [bne, *]; done)), (by first | rfl | (simp; done) | (simp [*]; done) | (simp [bne]; done) | (simp [bne, *]; done)), H', ⟨by have := HJ10.out; have := HK2.out; omega⟩, ⟨by (with_reducible repeat (first | apply Kd.R_alloc | apply Kd.R_drewN | apply Kd.R_drew)); exact HO_113001.out⟩, ⟨by (with_reducible repeat (first | refine blk_drewN ?_ _ | refine blk_drew ?_ | refine blk_alloc ?_ _)); exact BK112.out⟩, ⟨by repeat (first | (with_reducible first | exact HB.out | apply below_alloc | apply pw_below_drewN | apply below_drew1 | refine below_set ?_ GE112.out) | exact HB.out)⟩⟩
                  · rw [if_neg c29] at H
                    exact absurd H (by simp)
                · rw [if_neg c28] at H
                  have c28b0 : decide (x15_2 < t113) = false := decide_eq_false c28
                  clear c28
                  by_cases c30 : x14_2.size + 2 ≤ 9223372036854775807
                  · rw [if_pos c30] at H
                    have c30b0 := eq_true c30
                    have c30b1 : decide (x14_2.size + 2 ≤ 9223372036854775807) = true := decide_eq_true c30
                    try have c30b2 : (9223372036854775807 < x14_2.size + 2) = False := eq_false (Nat.not_lt.2 c30)
                    replace H := Option.bind_eq_some_iff.mp H
                    obtain ⟨⟨t114, t115, t118, t119⟩, A310, H⟩ := H
                    replace H : (if ((t119 == 0) != (decide (t113 ≤ 64))) = true then (abatislaw14_HeadEnds.j2 k2 a3 true) else (if t119 = 0 then (abatislaw14_HeadEnds.j2 k2 a3 false) else (abatislaw14_HeadEnds.j2 k2 a3 (t119 != 3)))) = some r := H
                    have A31 := Aside0.mk A310
                    clear A310
                    have HC32 := Aside0.mk H
                    clear H
                    go_upto_region 13 with (first | ((with_reducible refine gate_callee (f := 33) rfl ?_); refine goesL_ (some 69) rfl rfl Tryd.func33 (by kernel_rfl) rfl #[.string (x14_2 ++ (⟨#[13, 10]⟩ : ByteArray))] rfl (by (try simp only [List.map_toArray, List.map_cons, List.map_nil]); first | done | rfl | (simp only [List.length_drop, List.length_take]; rfl)) ?_; (with_reducible refine (head_Read.calls k2 (x14_2 ++ (⟨#[13, 10]⟩ : ByteArray)) t114 t115 t118 t119 _ (maxis_below HMX.out (by repeat (first | (with_reducible first | exact HB.out | apply below_alloc | apply pw_below_drewN | apply below_drew1) | exact HB.out | (refine Below.setCell ?_ ?_ _) | (first | exact GW112.out | exact GW120.out | exact GW132.out)))) A31.out).mono ?_); rintro e w33 ⟨v116, rfl, ho0, hb⟩; refine ⟨_, rfl, ?_⟩; have n0_ := Aside0.mk (Kd.R_elder' (by (with_reducible repeat (first | apply Kd.R_alloc | apply Kd.R_drewN | apply Kd.R_drew)); exact HO_113001.out) (Kd.R_base ho0) hb); have n1_ := Aside0.mk (Kd.R_lower (Kd.R_new' ho0 (Kd.R_lt (by (with_reducible repeat (first | apply Kd.R_alloc | apply Kd.R_drewN | apply Kd.R_drew)); exact HO_113001.out))) (below_size (by repeat (first | (with_reducible first | exact HB.out | apply below_alloc | apply pw_below_drewN | apply below_drew1 | refine below_set ?_ GE112.out) | exact HB.out)))); have n2_ := Aside0.mk (blk_below (g := gb112) (o := .cells #[.int .i64 t106, .slice Ao18 t107.length co18] 67 (0, 0)) (by (with_reducible repeat (first | refine blk_drewN ?_ _ | refine blk_drew ?_ | refine blk_alloc ?_ _)); exact BK112.out) hb); have n3_ := Aside0.mk (below_step (by repeat (first | (with_reducible first | exact HB.out | apply below_alloc | apply pw_below_drewN | apply below_drew1 | refine below_set ?_ GE112.out) | exact HB.out)) hb); clear HO_113001; clear BK112; clear HB; have HO_113001 := n0_; have HO117 := n1_; have BK112 := n2_; have HB := n3_; clear n0_ n1_ n2_ n3_; (try clear hb); (try clear hb2); (try clear hk); (try clear hi); (try clear ho0)) | ((with_reducible refine gate_dst (N := 16) rfl ?_); (try (refine gate_guard (by rfl) ?_; dsimp only)); refine box_event ?hg (N := 16) ?hd (cs := #[.int .i64 0, .slice none 0 0]) (t := 67) ?hr ?_; (case hd => rfl); (case hg => rfl); (case hr => first | (go_simp; done) | (go_simp; rfl)); intro gb120 hg w34 hbox hb; have n0_ := Aside0.mk (Kd.R_below (by (with_reducible repeat (first | apply Kd.R_alloc | apply Kd.R_drewN | apply Kd.R_drew)); exact HO_113001.out) hb); have n1_ := Aside0.mk (Kd.R_below (by (with_reducible repeat (first | apply Kd.R_alloc | apply Kd.R_drewN | apply Kd.R_drew)); exact HO117.out) hb); have n2_ := Aside0.mk (blk_below (g := gb112) (o := .cells #[.int .i64 t106, .slice Ao18 t107.length co18] 67 (0, 0)) (by (with_reducible repeat (first | refine blk_drewN ?_ _ | refine blk_drew ?_ | refine blk_alloc ?_ _)); exact BK112.out) hb); have n3_ := Aside0.mk (below_step (by repeat (first | (with_reducible first | exact HB.out | apply below_alloc | apply pw_below_drewN | apply below_drew1 | refine below_set ?_ GE112.out) | exact HB.out)) hb); have n4_ := Aside0.mk (hbox); have n5_ := Aside0.mk ((by rw [hg]; exact (below_size (by repeat (first | (with_reducible first | exact HB.out | apply below_alloc | apply pw_below_drewN | apply below_drew1 | refine below_set ?_ GE112.out) | exact HB.out))) : w.heap.size ≤ gb120)); have n6_ := Aside0.mk ((by rw [hg]; exact (below_size (by repeat (first | (with_reducible first | exact HB.out | apply below_alloc | apply pw_below_drewN | apply below_drew1 | refine below_set ?_ GE112.out) | exact HB.out))) : w.heap.size ≤ gb120)); have n7_ := Aside0.mk ((by rw [hg]; exact Nat.ne_of_lt (blk_lt (g := gb112) (o := .cells #[.int .i64 t106, .slice Ao18 t107.length co18] 67 (0, 0)) (by (with_reducible repeat (first | refine blk_drewN ?_ _ | refine blk_drew ?_ | refine blk_alloc ?_ _)); exact BK112.out)) : gb112 ≠ gb120)); have n8_ := Aside0.mk ((by rw [hg]; exact Nat.ne_of_gt (blk_lt (g := gb112) (o := .cells #[.int .i64 t106, .slice Ao18 t107.length co18] 67 (0, 0)) (by (with_reducible repeat (first | refine blk_drewN ?_ _ | refine blk_drew ?_ | refine blk_alloc ?_ _)); exact BK112.out)) : gb120 ≠ gb112)); clear HO_113001; clear HO117; clear BK112; clear HB; have HO_113001 := n0_; have HO117 := n1_; have BK112 := n2_; have HB := n3_; have BK120 := n4_; have GW120 := n5_; have GE120 := n6_; have NB112_120 := n7_; have NB120_112 := n8_; clear n0_ n1_ n2_ n3_ n4_ n5_ n6_ n7_ n8_; clear hb hbox hg; have hnb35 := NB120_112.out; have hnc35 := NB112_120.out; have hcz36_0 : w34.cell? ⟨gb120, 0, none⟩ = some (.int .i64 0) := (blk_cell BK120.out 0).trans rfl; have hcz36_1 : w34.cell? ⟨gb120, 1, none⟩ = some (.slice none 0 0) := (blk_cell BK120.out 1).trans rfl; have hfz36_0 := blk_frozen BK120.out 0; have hfz36_1 := blk_frozen BK120.out 1; obtain ⟨Ao37, co37, eo37⟩ := Kd.R_slice HO117.out; subst eo37))
                    (try simp only [Act.put, List.setIfInBounds_toArray, List.set_cons_zero, List.set_cons_succ])
                    go_cut [85] (fun v85 wc => ∃ (kq : Nat) (x85_31 : Bool), v85 = .bool x85_31 ∧ Aside0 (abatislaw14_HeadEnds.j2 kq a3 x85_31 = some r) ∧ Aside0 (kq ≤ k2) ∧ Aside0 (Kd.R k25 25 wc w.heap.size (fun k_ => some k_ ≠ ((.slice Ao37 t115.length co37) : Value).ownBlock) (.slice Ao18 t107.length co18) t107) ∧ Aside0 (Kd.R k25 25 wc w.heap.size (fun k_ => some k_ ≠ ((.slice Ao18 t107.length co18) : Value).ownBlock) (.slice Ao37 t115.length co37) t115) ∧ Aside0 (wc.heap[gb112]? = some (.cells #[.int .i64 t106, (.slice Ao18 t107.length co18)] 67 (0, 0))) ∧ Aside0 (wc.heap[gb120]? = some (.cells #[.int .i64 t114, (.slice Ao37 t115.length co37)] 67 (0, 0))) ∧ Aside0 (Below w.heap.size w wc))
                    case first =>
                      have H := HC32.out
                      clear HC32
                      by_cases c38 : ((t119 == 0) != (decide (t113 ≤ 64))) = true
                      · rw [if_pos c38] at H
                        have c38b0 : ((t119 == 0) != (decide (t113 ≤ 64))) = true := c38
                        (try (have c38b1 : decide ((t119 == 0) = (decide (t113 ≤ 64))) = false := by simpa using c38))
                        (try (have c38b2 : ((t119 == 0) == (decide (t113 ≤ 64))) = false := by simpa using c38))
                        (try (have c38b3 : ¬ ((t119 == 0) = (decide (t113 ≤ 64))) := by simpa using c38))
                        clear c38
                        (first | rw [c38b0] | (simp only [i64_w, i32_w]; rw [c38b0]) | skip)
                        have H' := Aside0.mk H
                        clear H
                        go_wp2
                        go_meet
                        case rel => exact ⟨_, (true), (by first | rfl | (simp; done) | (simp [*]; done) | (simp [bne]; done) | (simp [bne, *]; done)), H', ⟨by have := HJ10.out; have := HK2.out; first | omega | exact Nat.le_refl _⟩, ⟨by (with_reducible repeat (first | apply Kd.R_alloc | apply Kd.R_drewN | apply Kd.R_drew)); exact Kd.R_mono (Kd.R_far (p := ⟨gb120, 1, none⟩) (Kd.R_far (p := ⟨gb120, 0, none⟩) (Kd.R_types HO_113001.out BK120.out (by decide)) (fun _ hk => hk.2) (.int .i64 t114)) (fun _ hk => hk.2) (.slice Ao37 t115.length co37)) (fun _ hk => hk.1.2)⟩, ⟨by (with_reducible repeat (first | apply Kd.R_alloc | apply Kd.R_drewN | apply Kd.R_drew)); exact Kd.R_mono (Kd.R_far (p := ⟨gb120, 1, none⟩) (Kd.R_far (p := ⟨gb120, 0, none⟩) (Kd.R_types HO117.out BK120.out (by decide)) (fun _ hk => hk.2) (.int .i64 t114)) (fun _ hk => hk.2) (.slice Ao37 t115.length co37)) (fun _ hk => hk.1.2)⟩, ⟨by (with_reducible repeat (first | refine blk_drewN ?_ _ | refine blk_drew ?_ | refine blk_alloc ?_ _)); refine blk_far ?_ NB112_120.out _; (with_reducible repeat (first | refine blk_drewN ?_ _ | refine blk_drew ?_ | refine blk_alloc ?_ _)); refine blk_far ?_ NB112_120.out _; (with_reducible repeat (first | refine blk_drewN ?_ _ | refine blk_drew ?_ | refine blk_alloc ?_ _)); exact BK112.out⟩, ⟨by (with_reducible repeat (first | refine blk_drewN ?_ _ | refine blk_drew ?_ | refine blk_alloc ?_ _)); refine blk_put (cs := #[.int .i64 t114, .slice none 0 0]) ?_ 1 _ rfl; (with_reducible repeat (first | refine blk_drewN ?_ _ | refine blk_drew ?_ | refine blk_alloc ?_ _)); refine blk_put (cs := #[.int .i64 0, .slice none 0 0]) ?_ 0 _ rfl; (with_reducible repeat (first | refine blk_drewN ?_ _ | refine blk_drew ?_ | refine blk_alloc ?_ _)); exact BK120.out⟩, ⟨by repeat (first | (with_reducible first | exact HB.out | apply below_alloc | apply pw_below_drewN | apply below_drew1 | refine below_set ?_ GE112.out | refine below_set ?_ GE120.out) | exact HB.out)⟩⟩
                      · rw [if_neg c38] at H
                        have c38b0 : ((t119 == 0) != (decide (t113 ≤ 64))) = false := by simpa using c38
                        (try (have c38b1 : decide ((t119 == 0) = (decide (t113 ≤ 64))) = true := by simpa using c38))
                        (try (have c38b2 : ((t119 == 0) == (decide (t113 ≤ 64))) = true := by simpa using c38))
                        clear c38
                        (first | rw [c38b0] | (simp only [i64_w, i32_w]; rw [c38b0]) | skip)
                        by_cases c39 : t119 = 0
                        · rw [if_pos c39] at H
                          have c39b0 : (t119 == 0) = true := beq_iff_eq.mpr c39
                          have c39z0 : decide (t113 ≤ 64) = true := by have z_ := c38b0; rw [c39b0] at z_; simpa using z_
                          have c39z1 : (t113 ≤ 64) = True := by simpa using c39z0
                          have c39b1 : (t119 != 0) = false := bne_eq_false_iff_eq.mpr c39
                          clear c39
                          have H' := Aside0.mk H
                          clear H
                          go_wp2
                          go_meet
                          case rel => exact ⟨_, (false), (by first | rfl | (simp; done) | (simp [*]; done) | (simp [bne]; done) | (simp [bne, *]; done)), H', ⟨by have := HJ10.out; have := HK2.out; first | omega | exact Nat.le_refl _⟩, ⟨by (with_reducible repeat (first | apply Kd.R_alloc | apply Kd.R_drewN | apply Kd.R_drew)); exact Kd.R_mono (Kd.R_far (p := ⟨gb120, 1, none⟩) (Kd.R_far (p := ⟨gb120, 0, none⟩) (Kd.R_types HO_113001.out BK120.out (by decide)) (fun _ hk => hk.2) (.int .i64 t114)) (fun _ hk => hk.2) (.slice Ao37 t115.length co37)) (fun _ hk => hk.1.2)⟩, ⟨by (with_reducible repeat (first | apply Kd.R_alloc | apply Kd.R_drewN | apply Kd.R_drew)); exact Kd.R_mono (Kd.R_far (p := ⟨gb120, 1, none⟩) (Kd.R_far (p := ⟨gb120, 0, none⟩) (Kd.R_types HO117.out BK120.out (by decide)) (fun _ hk => hk.2) (.int .i64 t114)) (fun _ hk => hk.2) (.slice Ao37 t115.length co37)) (fun _ hk => hk.1.2)⟩, ⟨by (with_reducible repeat (first | refine blk_drewN ?_ _ | refine blk_drew ?_ | refine blk_alloc ?_ _)); refine blk_far ?_ NB112_120.out _; (with_reducible repeat (first | refine blk_drewN ?_ _ | refine blk_drew ?_ | refine blk_alloc ?_ _)); refine blk_far ?_ NB112_120.out _; (with_reducible repeat (first | refine blk_drewN ?_ _ | refine blk_drew ?_ | refine blk_alloc ?_ _)); exact BK112.out⟩, ⟨by (with_reducible repeat (first | refine blk_drewN ?_ _ | refine blk_drew ?_ | refine blk_alloc ?_ _)); refine blk_put (cs := #[.int .i64 t114, .slice none 0 0]) ?_ 1 _ rfl; (with_reducible repeat (first | refine blk_drewN ?_ _ | refine blk_drew ?_ | refine blk_alloc ?_ _)); refine blk_put (cs := #[.int .i64 0, .slice none 0 0]) ?_ 0 _ rfl; (with_reducible repeat (first | refine blk_drewN ?_ _ | refine blk_drew ?_ | refine blk_alloc ?_ _)); exact BK120.out⟩, ⟨by repeat (first | (with_reducible first | exact HB.out | apply below_alloc | apply pw_below_drewN | apply below_drew1 | refine below_set ?_ GE112.out | refine below_set ?_ GE120.out) | exact HB.out)⟩⟩
                        · rw [if_neg c39] at H
                          have c39b0 : (t119 == 0) = false := beq_eq_false_iff_ne.mpr c39
                          have c39z0 : decide (t113 ≤ 64) = false := by have z_ := c38b0; rw [c39b0] at z_; simpa using z_
                          have c39z1 : (t113 ≤ 64) = False := by simpa using c39z0
                          have c39b1 : (t119 != 0) = true := bne_iff_ne.mpr c39
                          have H' := Aside0.mk H
                          clear H
                          go_wp2
                          go_meet
                          case rel => exact ⟨_, ((t119 != 3)), (by first | rfl | (simp; done) | (simp [*]; done) | (simp [bne]; done) | (simp [bne, *]; done)), H', ⟨by have := HJ10.out; have := HK2.out; first | omega | exact Nat.le_refl _⟩, ⟨by (with_reducible repeat (first | apply Kd.R_alloc | apply Kd.R_drewN | apply Kd.R_drew)); exact Kd.R_mono (Kd.R_far (p := ⟨gb120, 1, none⟩) (Kd.R_far (p := ⟨gb120, 0, none⟩) (Kd.R_types HO_113001.out BK120.out (by decide)) (fun _ hk => hk.2) (.int .i64 t114)) (fun _ hk => hk.2) (.slice Ao37 t115.length co37)) (fun _ hk => hk.1.2)⟩, ⟨by (with_reducible repeat (first | apply Kd.R_alloc | apply Kd.R_drewN | apply Kd.R_drew)); exact Kd.R_mono (Kd.R_far (p := ⟨gb120, 1, none⟩) (Kd.R_far (p := ⟨gb120, 0, none⟩) (Kd.R_types HO117.out BK120.out (by decide)) (fun _ hk => hk.2) (.int .i64 t114)) (fun _ hk => hk.2) (.slice Ao37 t115.length co37)) (fun _ hk => hk.1.2)⟩, ⟨by (with_reducible repeat (first | refine blk_drewN ?_ _ | refine blk_drew ?_ | refine blk_alloc ?_ _)); refine blk_far ?_ NB112_120.out _; (with_reducible repeat (first | refine blk_drewN ?_ _ | refine blk_drew ?_ | refine blk_alloc ?_ _)); refine blk_far ?_ NB112_120.out _; (with_reducible repeat (first | refine blk_drewN ?_ _ | refine blk_drew ?_ | refine blk_alloc ?_ _)); exact BK112.out⟩, ⟨by (with_reducible repeat (first | refine blk_drewN ?_ _ | refine blk_drew ?_ | refine blk_alloc ?_ _)); refine blk_put (cs := #[.int .i64 t114, .slice none 0 0]) ?_ 1 _ rfl; (with_reducible repeat (first | refine blk_drewN ?_ _ | refine blk_drew ?_ | refine blk_alloc ?_ _)); refine blk_put (cs := #[.int .i64 0, .slice none 0 0]) ?_ 0 _ rfl; (with_reducible repeat (first | refine blk_drewN ?_ _ | refine blk_drew ?_ | refine blk_alloc ?_ _)); exact BK120.out⟩, ⟨by repeat (first | (with_reducible first | exact HB.out | apply below_alloc | apply pw_below_drewN | apply below_drew1 | refine below_set ?_ GE112.out | refine below_set ?_ GE120.out) | exact HB.out)⟩⟩
                    case rest =>
                      clear HC32
                      try clear c1
                      try clear c2
                      try clear p2
                      try clear c3
                      try clear p6
                      try clear c7
                      try clear c8
                      try clear c8b0
                      try clear c8b1
                      try clear c9
                      try clear c9b0
                      try clear c9b1
                      try clear c19
                      try clear c19b0
                      try clear c19b1
                      try clear c20
                      try clear c20b0
                      try clear c20b1
                      try clear c22
                      try clear c22b0
                      try clear c22b1
                      try clear c26
                      try clear c28
                      try clear c28b0
                      try clear c29
                      try clear c29b0
                      try clear c29b1
                      try clear c29b2
                      try clear c30
                      try clear c30b0
                      try clear c30b1
                      try clear c30b2
                      try clear c31
                      try clear c32
                      try clear c33
                      try clear c35
                      try clear c38
                      try clear c38b0
                      try clear c38b1
                      try clear c38b2
                      try clear c39
                      try clear c39b0
                      try clear c39b1
                      try clear hcz17_0
                      try clear hcz17_1
                      try clear hcz21_0
                      try clear hcz21_1
                      try clear hcz23_0
                      try clear hcz23_1
                      try clear hcz24_0
                      try clear hcz24_1
                      try clear hcz25_0
                      try clear hcz25_1
                      try clear hcz36_0
                      try clear hcz36_1
                      try clear hfz17_0
                      try clear hfz17_1
                      try clear hfz21_0
                      try clear hfz21_1
                      try clear hfz23_0
                      try clear hfz23_1
                      try clear hfz24_0
                      try clear hfz24_1
                      try clear hfz25_0
                      try clear hfz25_1
                      try clear hfz36_0
                      try clear hfz36_1
                      try clear p2
                      obtain ⟨kq, x85_31, rfl, HA, HJ31, HO_113001, HO_121001, BK112, BK120, HB⟩ := hcut
                      cases kq with
                      | zero => exact absurd HA.out (by simp [abatislaw14_HeadEnds.j2])
                      | succ kj31 =>
                        have H := HA.out
                        clear HA
                        simp only [abatislaw14_HeadEnds.j2] at H
                        by_cases c40 : x85_31 = true
                        · subst c40
                          have H1 : (some false) = some r := by rw [if_pos rfl] at H; exact H
                          clear H
                          have H := H1
                          clear H1
                          obtain rfl := Option.some.inj H
                          go_wp2
                          go_ret
                          exact ⟨by first | rfl | (simp [errW_none, errW_some] <;> rfl) | (simp [*, errW_none, errW_some] <;> rfl), by repeat (first | (with_reducible first | exact HB.out | apply below_alloc | apply pw_below_drewN | apply below_drew1 | refine below_set ?_ GE112.out | refine below_set ?_ GE120.out) | exact HB.out)⟩
                        · replace c40 := Bool.eq_false_iff.mpr c40
                          subst c40
                          have H1 : ((abatisref01_Around.f a3 9001).bind fun t121 => (if 0 ≤ t121 then (if (t121 : Int).toNat ≤ 281474976710656 then (abatislaw14_HeadEnds.l1 kj31 t121 (List.replicate (t121 : Int).toNat 0) 0) else (none)) else (none))) = some r := by rw [if_neg (show ¬ (false = true) by decide)] at H; exact H
                          clear H
                          have H := H1
                          clear H1
                          replace H := Option.bind_eq_some_iff.mp H
                          obtain ⟨t121, A410, H⟩ := H
                          replace H : (if 0 ≤ t121 then (if (t121 : Int).toNat ≤ 281474976710656 then (abatislaw14_HeadEnds.l1 kj31 t121 (List.replicate (t121 : Int).toNat 0) 0) else (none)) else (none)) = some r := H
                          have A41 := Aside0.mk A410
                          clear A410
                          by_cases c42 : 0 ≤ t121
                          · rw [if_pos c42] at H
                            have c42b0 := eq_true c42
                            have c42b1 : decide (0 ≤ t121) = true := decide_eq_true c42
                            clear c42
                            by_cases c43 : (t121 : Int).toNat ≤ 281474976710656
                            · rw [if_pos c43] at H
                              have c43b0 := eq_true c43
                              have c43b1 : decide ((t121 : Int).toNat ≤ 281474976710656) = true := decide_eq_true c43
                              clear c43
                              obtain ⟨y122, hy122⟩ : ∃ y_ : List Int, y_ = (List.replicate (t121 : Int).toNat 0) := ⟨_, rfl⟩
                              replace H : (abatislaw14_HeadEnds.l1 kj31 t121 y122 0) = some r := by first | (rw [hy122]; with_reducible exact H) | (have H2_ := (Option.bind_some _ _).symm.trans H; rw [hy122]; with_reducible exact H2_) | (have H2_ := (Option.bind_some _ _).symm.trans H; with_reducible exact H2_) | with_reducible exact H | (rw [hy122]; exact H) | exact H
                              have Ny122 := Aside0.mk hy122
                              clear hy122
                              have H' := Aside0.mk H
                              clear H
                              go_wp2_with (first | ((with_reducible refine gate_callee (f := 28) rfl ?_); refine goesL_ (some 87) rfl rfl Tryd.func28 (by kernel_rfl) rfl #[.int .i64 a3, .int .i64 9001] rfl (by (try simp only [List.map_toArray, List.map_cons, List.map_nil]); first | done | rfl | (simp only [List.length_drop, List.length_take]; rfl)) ?_; (with_reducible refine (abatisref01_Around.calls a3 9001 t121 _ A41.out).mono ?_); rintro e w' ⟨rfl, ⟨nd, rfl⟩⟩; refine ⟨_, rfl, ?_⟩) | ((with_reducible refine gate_dst (N := 89) rfl ?_); (try (refine gate_guard (by rfl) ?_; dsimp only)); refine Kd.R_make (Kd.int .u8) _ 5 rfl (N := 89) rfl 71 _ _ rfl t121 rfl rfl Tryd.underlying71 (.int .u8 0) 1 info5 rfl (by decide) (by omega) 0 (ok := fun _ => True) (okp := fun _ => True) rfl (fun _ hk => hk) trivial (of_decide_eq_true (by first | (with_reducible assumption) | assumption)) (Nat.le_trans (Nat.mul_le_mul_right _ (of_decide_eq_true (by first | (with_reducible assumption) | assumption) : t121.toNat ≤ 281474976710656)) (by omega)) (Below.refl _ _) (Nat.le_refl _) ?_; intro v123 w44 ho45 hb hg_ hnew_; clear hg_ hnew_; (first | rw [← Ny122.out] at ho45 | (simp only [Int.reduceToNat] at ho45; rw [← Ny122.out] at ho45)); have n0_ := Aside0.mk (Kd.R_below (by (with_reducible repeat (first | apply Kd.R_alloc | apply Kd.R_drewN | apply Kd.R_drew)); exact HO_113001.out) hb); have n1_ := Aside0.mk (Kd.R_below (by (with_reducible repeat (first | apply Kd.R_alloc | apply Kd.R_drewN | apply Kd.R_drew)); exact HO_121001.out) hb); have n2_ := Aside0.mk (Kd.R_lower ho45 (below_size (by repeat (first | (with_reducible first | exact HB.out | apply below_alloc | apply pw_below_drewN | apply below_drew1 | refine below_set ?_ GE112.out | refine below_set ?_ GE120.out) | exact HB.out)))); have n3_ := Aside0.mk (blk_below (g := gb112) (o := .cells #[.int .i64 t106, .slice Ao18 t107.length co18] 67 (0, 0)) (by (with_reducible repeat (first | refine blk_drewN ?_ _ | refine blk_drew ?_ | refine blk_alloc ?_ _)); exact BK112.out) hb); have n4_ := Aside0.mk (blk_below (g := gb120) (o := .cells #[.int .i64 t114, .slice Ao37 t115.length co37] 67 (0, 0)) (by (with_reducible repeat (first | refine blk_drewN ?_ _ | refine blk_drew ?_ | refine blk_alloc ?_ _)); exact BK120.out) hb); have n5_ := Aside0.mk (below_step (by repeat (first | (with_reducible first | exact HB.out | apply below_alloc | apply pw_below_drewN | apply below_drew1 | refine below_set ?_ GE112.out | refine below_set ?_ GE120.out) | exact HB.out)) hb); clear HO_113001; clear HO_121001; clear BK112; clear BK120; clear HB; have HO_113001 := n0_; have HO_121001 := n1_; have HO124 := n2_; have BK112 := n3_; have BK120 := n4_; have HB := n5_; clear n0_ n1_ n2_ n3_ n4_ n5_; clear hb ho45))
                              go_loopg [20] kj31 (fun kq v20 w' => ∃ (x19_4 : List Int) (x20_4 : Int), v20 = .int .i64 x20_4 ∧ Aside0 (abatislaw14_HeadEnds.l1 kq t121 x19_4 x20_4 = some r) ∧ Aside0 (kq ≤ kj31) ∧ Aside0 (Kd.R (Kd.int .u8) 5 w' w.heap.size (fun _ => True) v123 x19_4) ∧ Aside0 (Kd.R k25 25 w' w.heap.size (fun k_ => some k_ ≠ ((.slice Ao37 t115.length co37) : Value).ownBlock) (.slice Ao18 t107.length co18) t107) ∧ Aside0 (Kd.R k25 25 w' w.heap.size (fun k_ => some k_ ≠ ((.slice Ao18 t107.length co18) : Value).ownBlock) (.slice Ao37 t115.length co37) t115) ∧ Aside0 (w'.heap[gb112]? = some (.cells #[.int .i64 t106, (.slice Ao18 t107.length co18)] 67 (0, 0))) ∧ Aside0 (w'.heap[gb120]? = some (.cells #[.int .i64 t114, (.slice Ao37 t115.length co37)] 67 (0, 0))) ∧ Aside0 (Below w.heap.size w w'))
                              case atStart => exact ⟨(y122), (0), (by first | rfl | (simp; done) | (simp [*]; done) | (simp [bne]; done) | (simp [bne, *]; done)), H', ⟨Nat.le_refl _⟩, ⟨by (with_reducible repeat (first | apply Kd.R_alloc | apply Kd.R_drewN | apply Kd.R_drew)); exact HO124.out⟩, ⟨by (with_reducible repeat (first | apply Kd.R_alloc | apply Kd.R_drewN | apply Kd.R_drew)); exact HO_113001.out⟩, ⟨by (with_reducible repeat (first | apply Kd.R_alloc | apply Kd.R_drewN | apply Kd.R_drew)); exact HO_121001.out⟩, ⟨by (with_reducible repeat (first | refine blk_drewN ?_ _ | refine blk_drew ?_ | refine blk_alloc ?_ _)); exact BK112.out⟩, ⟨by (with_reducible repeat (first | refine blk_drewN ?_ _ | refine blk_drew ?_ | refine blk_alloc ?_ _)); exact BK120.out⟩, ⟨by repeat (first | (with_reducible first | exact HB.out | apply below_alloc | apply pw_below_drewN | apply below_drew1 | refine below_set ?_ GE112.out | refine below_set ?_ GE120.out) | exact HB.out)⟩⟩
                              case round =>
                                clear H'
                                try clear c1
                                try clear c2
                                try clear p2
                                try clear c3
                                try clear c4
                                try clear p6
                                try clear c7
                                try clear c8
                                try clear c8b0
                                try clear c8b1
                                try clear c9
                                try clear c9b0
                                try clear c9b1
                                try clear c19
                                try clear c19b0
                                try clear c19b1
                                try clear c20
                                try clear c20b0
                                try clear c20b1
                                try clear c22
                                try clear c22b0
                                try clear c22b1
                                try clear c26
                                try clear c28
                                try clear c28b0
                                try clear c29
                                try clear c29b0
                                try clear c29b1
                                try clear c29b2
                                try clear c30
                                try clear c30b0
                                try clear c30b1
                                try clear c30b2
                                try clear c31
                                try clear c32
                                try clear c33
                                try clear c35
                                try clear c38
                                try clear c38b0
                                try clear c38b1
                                try clear c38b2
                                try clear c39
                                try clear c39b0
                                try clear c39b1
                                try clear c40
                                try clear c42
                                try clear c42b0
                                try clear c42b1
                                try clear c43
                                try clear c43b0
                                try clear c43b1
                                try clear hcz17_0
                                try clear hcz17_1
                                try clear hcz21_0
                                try clear hcz21_1
                                try clear hcz23_0
                                try clear hcz23_1
                                try clear hcz24_0
                                try clear hcz24_1
                                try clear hcz25_0
                                try clear hcz25_1
                                try clear hcz36_0
                                try clear hcz36_1
                                try clear hfz17_0
                                try clear hfz17_1
                                try clear hfz21_0
                                try clear hfz21_1
                                try clear hfz23_0
                                try clear hfz23_1
                                try clear hfz24_0
                                try clear hfz24_1
                                try clear hfz25_0
                                try clear hfz25_1
                                try clear hfz36_0
                                try clear hfz36_1
                                try clear p2
                                try clear p6
                                obtain ⟨x19_4, x20_4, rfl, HA, HK4, HO_19, HO_113001, HO_121001, BK112, BK120, HB⟩ := hrel
                                cases gk with
                                | zero => exact absurd HA.out (by simp [abatislaw14_HeadEnds.l1])
                                | succ k4 =>
                                  have H := HA.out
                                  clear HA
                                  simp only [abatislaw14_HeadEnds.l1] at H
                                  by_cases c46 : x20_4 < t121
                                  · rw [if_pos c46] at H
                                    have c46b0 : decide (x20_4 < t121) = true := decide_eq_true c46
                                    clear c46
                                    by_cases c47 : 0 ≤ x20_4
                                    · rw [if_pos c47] at H
                                      have c47b0 : decide (0 ≤ x20_4) = true := decide_eq_true c47
                                      clear c47
                                      by_cases c48 : x20_4 < (x19_4.length : Int)
                                      · rw [if_pos c48] at H
                                        have c48b0 : decide (x20_4 < (x19_4.length : Int)) = true := decide_eq_true c48
                                        clear c48
                                        obtain ⟨y125, hy125⟩ : ∃ y_ : List Int, y_ = (x19_4.set (x20_4 : Int).toNat 97) := ⟨_, rfl⟩
                                        replace H : (abatislaw14_HeadEnds.l1 k4 t121 y125 (wrap64 (x20_4 + 1))) = some r := by first | (rw [hy125]; with_reducible exact H) | (have H2_ := (Option.bind_some _ _).symm.trans H; rw [hy125]; with_reducible exact H2_) | (have H2_ := (Option.bind_some _ _).symm.trans H; with_reducible exact H2_) | with_reducible exact H | (rw [hy125]; exact H) | exact H
                                        have Ny125 := Aside0.mk hy125
                                        clear hy125
                                        have H' := Aside0.mk H
                                        clear H
                                        have p49 : 0 ≤ (x20_4 : Int) := of_decide_eq_true (by first | (with_reducible assumption) | assumption)
                                        have q49 : (x20_4 : Int) < ((x19_4.length : Int) : Int) := of_decide_eq_true (by first | (with_reducible assumption) | assumption)
                                        obtain ⟨go49, co49, eo49, gb49, gl49, cl49, HG49⟩ := Kd.R_form HO_19.out (by omega)
                                        (first | cases eo49 | (injection eo49 with ea_ en_ ec_; (first | subst ea_ | (injection ea_ with ea_; subst ea_)); subst ec_; clear en_))
                                        have GB49 := Aside0.mk gb49
                                        have GG49 := Aside0.mk HG49
                                        clear gb49 gl49 HG49
                                        obtain ⟨hx49_0, hf49_0⟩ := Kd.R_celln 0 HO_19.out (x20_4 : Int) p49 q49
                                        replace p49 := eq_true p49
                                        replace q49 := eq_true q49
                                        have HP50 := Kd.R_putg HO_19.out (x20_4 : Int) 97
                                        go_wp2_with (first | ((with_reducible refine gate_store (t := 5) (p := 97) rfl ?_); refine store_event (t := 5) (p := 97) (v := ?vo_w51) (w1 := (wr.setCell ⟨go49, (x20_4 : Int).toNat, none⟩ (.int .u8 97))) ?hg ?ho ?hn ?hr ?_; (case ho => rfl); (case hg => rfl); (case hn => rfl); (case hr => first | (go_simp; done) | (go_simp; rfl)); intro w51 hw; have hg : wr.grownBy w51 (some go49) := (by rw [hw]; exact HP50.2); have hp_ : Kd.R (Kd.int .u8) 5 w51 w.heap.size (fun _ => True) (.slice (some ⟨go49, 0, none⟩) x19_4.length co49) y125 := (by rw [hw, Ny125.out]; exact HP50.1); clear HP50; have n0_ := Aside0.mk (hp_); have n1_ := Aside0.mk (Kd.R_over' (v := (.slice (some ⟨go49, 0, none⟩) x19_4.length co49)) (by (with_reducible repeat (first | apply Kd.R_alloc | apply Kd.R_drewN | apply Kd.R_drew)); exact HO_113001.out) (Kd.R_typed HO_19.out) (by decide) hg); have n2_ := Aside0.mk (Kd.R_over' (v := (.slice (some ⟨go49, 0, none⟩) x19_4.length co49)) (by (with_reducible repeat (first | apply Kd.R_alloc | apply Kd.R_drewN | apply Kd.R_drew)); exact HO_121001.out) (Kd.R_typed HO_19.out) (by decide) hg); have n3_ := Aside0.mk (blk_grown (g := gb112) (o := .cells #[.int .i64 t106, .slice Ao18 t107.length co18] 67 (0, 0)) (by (with_reducible repeat (first | refine blk_drewN ?_ _ | refine blk_drew ?_ | refine blk_alloc ?_ _)); exact BK112.out) hg (Kd.R_ne HO_19.out BK112.out (by decide))); have n4_ := Aside0.mk (blk_grown (g := gb120) (o := .cells #[.int .i64 t114, .slice Ao37 t115.length co37] 67 (0, 0)) (by (with_reducible repeat (first | refine blk_drewN ?_ _ | refine blk_drew ?_ | refine blk_alloc ?_ _)); exact BK120.out) hg (Kd.R_ne HO_19.out BK120.out (by decide))); have n5_ := Aside0.mk ((by rw [hw]; exact below_set (HB.out) GB49.out : Below w.heap.size w w51)); clear HO_19; clear HO_113001; clear HO_121001; clear BK112; clear BK120; clear HB; have HO_19 := n0_; have HO_113001 := n1_; have HO_121001 := n2_; have BK112 := n3_; have BK120 := n4_; have HB := n5_; clear n0_ n1_ n2_ n3_ n4_ n5_; clear hg hw hp_))
                                        go_roundg k4
                                        case measure => have := HJ10.out; have := HK2.out; have := HJ31.out; have := HK4.out; omega
                                        case rel => exact ⟨(y125), (wrap64 (x20_4 + 1)), (by first | rfl | (simp; done) | (simp [*]; done) | (simp [bne]; done) | (simp [bne, *]; done)), H', ⟨by have := HJ10.out; have := HK2.out; have := HJ31.out; have := HK4.out; omega⟩, ⟨by (with_reducible repeat (first | apply Kd.R_alloc | apply Kd.R_drewN | apply Kd.R_drew)); exact HO_19.out⟩, ⟨by (with_reducible repeat (first | apply Kd.R_alloc | apply Kd.R_drewN | apply Kd.R_drew)); exact HO_113001.out⟩, ⟨by (with_reducible repeat (first | apply Kd.R_alloc | apply Kd.R_drewN | apply Kd.R_drew)); exact HO_121001.out⟩, ⟨by (with_reducible repeat (first | refine blk_drewN ?_ _ | refine blk_drew ?_ | refine blk_alloc ?_ _)); exact BK112.out⟩, ⟨by (with_reducible repeat (first | refine blk_drewN ?_ _ | refine blk_drew ?_ | refine blk_alloc ?_ _)); exact BK120.out⟩, ⟨by repeat (first | (with_reducible first | exact HB.out | apply below_alloc | apply pw_below_drewN | apply below_drew1 | refine below_set ?_ GE112.out | refine below_set ?_ GE120.out) | exact HB.out)⟩⟩
                                      · rw [if_neg c48] at H
                                        exact absurd H (by simp)
                                    · rw [if_neg c47] at H
                                      exact absurd H (by simp)
                                  · rw [if_neg c46] at H
                                    have c46b0 : decide (x20_4 < t121) = false := decide_eq_false c46
                                    clear c46
                                    replace H := Option.bind_eq_some_iff.mp H
                                    obtain ⟨⟨t126, t127, t130, t131⟩, A520, H⟩ := H
                                    replace H : (if ((t131 == 3) == (decide (t121 ≥ 8192))) = true then (if ((t131 == 4) == (decide (t121 < 8192))) = true then ((abatislaw14_lives.f k4).bind fun t133 => (some t133)) else (some false)) else (some false)) = some r := H
                                    have A52 := Aside0.mk A520
                                    clear A520
                                    by_cases c53 : ((t131 == 3) == (decide (t121 ≥ 8192))) = true
                                    · rw [if_pos c53] at H
                                      have c53b0 : ((t131 == 3) == (decide (t121 ≥ 8192))) = true := c53
                                      (try (have c53b1 : decide ((t131 == 3) = (decide (t121 ≥ 8192))) = true := by simpa using c53))
                                      (try (have c53b2 : ((t131 == 3) == (decide (t121 ≥ 8192))) = true := by simpa using c53))
                                      clear c53
                                      by_cases c54 : ((t131 == 4) == (decide (t121 < 8192))) = true
                                      · rw [if_pos c54] at H
                                        have c54b0 : ((t131 == 4) == (decide (t121 < 8192))) = true := c54
                                        (try (have c54b1 : decide ((t131 == 4) = (decide (t121 < 8192))) = true := by simpa using c54))
                                        (try (have c54b2 : ((t131 == 4) == (decide (t121 < 8192))) = true := by simpa using c54))
                                        clear c54
                                        replace H := Option.bind_eq_some_iff.mp H
                                        obtain ⟨t133, A550, H⟩ := H
                                        replace H : (some t133) = some r := H
                                        have A55 := Aside0.mk A550
                                        clear A550
                                        obtain rfl := Option.some.inj H
                                        have hcv56 := own_string (P := Tryd.prog) Tryd.underlying71 Tryd.underlying5 Tryd.underlying9 (Kd.own_of_R HO_19.out)
                                        go_wp2_with (first | ((with_reducible refine gate_callee (f := 33) rfl ?_); refine goesL_ (some 101) rfl rfl Tryd.func33 (by kernel_rfl) rfl #[.string (strOfNums x19_4)] rfl (by (try simp only [List.map_toArray, List.map_cons, List.map_nil]); first | done | rfl | (simp only [List.length_drop, List.length_take]; rfl)) ?_; (with_reducible refine (head_Read.calls k4 (strOfNums x19_4) t126 t127 t130 t131 _ (maxis_below HMX.out (by repeat (first | (with_reducible first | exact HB.out | apply below_alloc | apply pw_below_drewN | apply below_drew1) | exact HB.out | (refine Below.setCell ?_ ?_ _) | (first | exact GW112.out | exact GW120.out | exact GW132.out)))) A52.out).mono ?_); rintro e w57 ⟨v128, rfl, ho0, hb⟩; refine ⟨_, rfl, ?_⟩; have n0_ := Aside0.mk (Kd.R_below (by (with_reducible repeat (first | apply Kd.R_alloc | apply Kd.R_drewN | apply Kd.R_drew)); exact HO_19.out) hb); have n1_ := Aside0.mk (Kd.R_elder' (by (with_reducible repeat (first | apply Kd.R_alloc | apply Kd.R_drewN | apply Kd.R_drew)); exact HO_113001.out) (Kd.R_base ho0) hb); have n2_ := Aside0.mk (Kd.R_elder' (by (with_reducible repeat (first | apply Kd.R_alloc | apply Kd.R_drewN | apply Kd.R_drew)); exact HO_121001.out) (Kd.R_base ho0) hb); have n3_ := Aside0.mk (Kd.R_lower (Kd.R_new' (Kd.R_new' ho0 (Kd.R_lt (by (with_reducible repeat (first | apply Kd.R_alloc | apply Kd.R_drewN | apply Kd.R_drew)); exact HO_113001.out))) (Kd.R_lt (by (with_reducible repeat (first | apply Kd.R_alloc | apply Kd.R_drewN | apply Kd.R_drew)); exact HO_121001.out))) (below_size (by repeat (first | (with_reducible first | exact HB.out | apply below_alloc | apply pw_below_drewN | apply below_drew1 | refine below_set ?_ GE112.out | refine below_set ?_ GE120.out) | exact HB.out)))); have n4_ := Aside0.mk (blk_below (g := gb112) (o := .cells #[.int .i64 t106, .slice Ao18 t107.length co18] 67 (0, 0)) (by (with_reducible repeat (first | refine blk_drewN ?_ _ | refine blk_drew ?_ | refine blk_alloc ?_ _)); exact BK112.out) hb); have n5_ := Aside0.mk (blk_below (g := gb120) (o := .cells #[.int .i64 t114, .slice Ao37 t115.length co37] 67 (0, 0)) (by (with_reducible repeat (first | refine blk_drewN ?_ _ | refine blk_drew ?_ | refine blk_alloc ?_ _)); exact BK120.out) hb); have n6_ := Aside0.mk (below_step (by repeat (first | (with_reducible first | exact HB.out | apply below_alloc | apply pw_below_drewN | apply below_drew1 | refine below_set ?_ GE112.out | refine below_set ?_ GE120.out) | exact HB.out)) hb); clear HO_19; clear HO_113001; clear HO_121001; clear BK112; clear BK120; clear HB; have HO_19 := n0_; have HO_113001 := n1_; have HO_121001 := n2_; have HO129 := n3_; have BK112 := n4_; have BK120 := n5_; have HB := n6_; clear n0_ n1_ n2_ n3_ n4_ n5_ n6_; (try clear hb); (try clear hb2); (try clear hk); (try clear hi); (try clear ho0)) | ((with_reducible refine gate_dst (N := 21) rfl ?_); (try (refine gate_guard (by rfl) ?_; dsimp only)); refine box_event ?hg (N := 21) ?hd (cs := #[.int .i64 0, .slice none 0 0]) (t := 67) ?hr ?_; (case hd => rfl); (case hg => rfl); (case hr => first | (go_simp; done) | (go_simp; rfl)); intro gb132 hg w58 hbox hb; have n0_ := Aside0.mk (Kd.R_below (by (with_reducible repeat (first | apply Kd.R_alloc | apply Kd.R_drewN | apply Kd.R_drew)); exact HO_19.out) hb); have n1_ := Aside0.mk (Kd.R_below (by (with_reducible repeat (first | apply Kd.R_alloc | apply Kd.R_drewN | apply Kd.R_drew)); exact HO_113001.out) hb); have n2_ := Aside0.mk (Kd.R_below (by (with_reducible repeat (first | apply Kd.R_alloc | apply Kd.R_drewN | apply Kd.R_drew)); exact HO_121001.out) hb); have n3_ := Aside0.mk (Kd.R_below (by (with_reducible repeat (first | apply Kd.R_alloc | apply Kd.R_drewN | apply Kd.R_drew)); exact HO129.out) hb); have n4_ := Aside0.mk (blk_below (g := gb112) (o := .cells #[.int .i64 t106, .slice Ao18 t107.length co18] 67 (0, 0)) (by (with_reducible repeat (first | refine blk_drewN ?_ _ | refine blk_drew ?_ | refine blk_alloc ?_ _)); exact BK112.out) hb); have n5_ := Aside0.mk (blk_below (g := gb120) (o := .cells #[.int .i64 t114, .slice Ao37 t115.length co37] 67 (0, 0)) (by (with_reducible repeat (first | refine blk_drewN ?_ _ | refine blk_drew ?_ | refine blk_alloc ?_ _)); exact BK120.out) hb); have n6_ := Aside0.mk (below_step (by repeat (first | (with_reducible first | exact HB.out | apply below_alloc | apply pw_below_drewN | apply below_drew1 | refine below_set ?_ GE112.out | refine below_set ?_ GE120.out) | exact HB.out)) hb); have n7_ := Aside0.mk (hbox); have n8_ := Aside0.mk ((by rw [hg]; exact (below_size (by repeat (first | (with_reducible first | exact HB.out | apply below_alloc | apply pw_below_drewN | apply below_drew1 | refine below_set ?_ GE112.out | refine below_set ?_ GE120.out) | exact HB.out))) : w.heap.size ≤ gb132)); have n9_ := Aside0.mk ((by rw [hg]; exact (below_size (by repeat (first | (with_reducible first | exact HB.out | apply below_alloc | apply pw_below_drewN | apply below_drew1 | refine below_set ?_ GE112.out | refine below_set ?_ GE120.out) | exact HB.out))) : w.heap.size ≤ gb132)); have n10_ := Aside0.mk ((by rw [hg]; exact Nat.ne_of_lt (blk_lt (g := gb112) (o := .cells #[.int .i64 t106, .slice Ao18 t107.length co18] 67 (0, 0)) (by (with_reducible repeat (first | refine blk_drewN ?_ _ | refine blk_drew ?_ | refine blk_alloc ?_ _)); exact BK112.out)) : gb112 ≠ gb132)); have n11_ := Aside0.mk ((by rw [hg]; exact Nat.ne_of_gt (blk_lt (g := gb112) (o := .cells #[.int .i64 t106, .slice Ao18 t107.length co18] 67 (0, 0)) (by (with_reducible repeat (first | refine blk_drewN ?_ _ | refine blk_drew ?_ | refine blk_alloc ?_ _)); exact BK112.out)) : gb132 ≠ gb112)); have n12_ := Aside0.mk ((by rw [hg]; exact Nat.ne_of_lt (blk_lt (g := gb120) (o := .cells #[.int .i64 t114, .slice Ao37 t115.length co37] 67 (0, 0)) (by (with_reducible repeat (first | refine blk_drewN ?_ _ | refine blk_drew ?_ | refine blk_alloc ?_ _)); exact BK120.out)) : gb120 ≠ gb132)); have n13_ := Aside0.mk ((by rw [hg]; exact Nat.ne_of_gt (blk_lt (g := gb120) (o := .cells #[.int .i64 t114, .slice Ao37 t115.length co37] 67 (0, 0)) (by (with_reducible repeat (first | refine blk_drewN ?_ _ | refine blk_drew ?_ | refine blk_alloc ?_ _)); exact BK120.out)) : gb132 ≠ gb120)); clear HO_19; clear HO_113001; clear HO_121001; clear HO129; clear BK112; clear BK120; clear HB; have HO_19 := n0_; have HO_113001 := n1_; have HO_121001 := n2_; have HO129 := n3_; have BK112 := n4_; have BK120 := n5_; have HB := n6_; have BK132 := n7_; have GW132 := n8_; have GE132 := n9_; have NB112_132 := n10_; have NB132_112 := n11_; have NB120_132 := n12_; have NB132_120 := n13_; clear n0_ n1_ n2_ n3_ n4_ n5_ n6_ n7_ n8_ n9_ n10_ n11_ n12_ n13_; clear hb hbox hg; have hnb59 := NB132_112.out; have hnc59 := NB112_132.out; have hnb60 := NB132_120.out; have hnc60 := NB120_132.out; have hcz61_0 : w58.cell? ⟨gb132, 0, none⟩ = some (.int .i64 0) := (blk_cell BK132.out 0).trans rfl; have hcz61_1 : w58.cell? ⟨gb132, 1, none⟩ = some (.slice none 0 0) := (blk_cell BK132.out 1).trans rfl; have hfz61_0 := blk_frozen BK132.out 0; have hfz61_1 := blk_frozen BK132.out 1; obtain ⟨Ao62, co62, eo62⟩ := Kd.R_slice HO129.out; subst eo62) | (go_at_call 34; (with_reducible refine (abatislaw14_lives.calls k4  t133 _ (maxis_below HMX.out (by repeat (first | (with_reducible first | exact HB.out | apply below_alloc | apply pw_below_drewN | apply below_drew1) | exact HB.out | (refine Below.setCell ?_ ?_ _) | (first | exact GW112.out | exact GW120.out | exact GW132.out)))) A55.out).mono ?_); rintro e w63 ⟨rfl, hb⟩; have n0_ := Aside0.mk (Kd.R_below (by (with_reducible repeat (first | apply Kd.R_alloc | apply Kd.R_drewN | apply Kd.R_drew)); exact (Kd.R_mono (Kd.R_far (p := ⟨gb132, 1, none⟩) (Kd.R_far (p := ⟨gb132, 0, none⟩) (Kd.R_types HO_19.out BK132.out (by decide)) (fun _ hk => hk.2) (.int .i64 t126)) (fun _ hk => hk.2) (.slice Ao62 t127.length co62)) (fun _ h_ => h_.1))) hb); have n1_ := Aside0.mk (Kd.R_below (by (with_reducible repeat (first | apply Kd.R_alloc | apply Kd.R_drewN | apply Kd.R_drew)); exact (Kd.R_mono (Kd.R_far (p := ⟨gb132, 1, none⟩) (Kd.R_far (p := ⟨gb132, 0, none⟩) (Kd.R_types HO_113001.out BK132.out (by decide)) (fun _ hk => hk.2) (.int .i64 t126)) (fun _ hk => hk.2) (.slice Ao62 t127.length co62)) (fun _ h_ => h_.1))) hb); have n2_ := Aside0.mk (Kd.R_below (by (with_reducible repeat (first | apply Kd.R_alloc | apply Kd.R_drewN | apply Kd.R_drew)); exact (Kd.R_mono (Kd.R_far (p := ⟨gb132, 1, none⟩) (Kd.R_far (p := ⟨gb132, 0, none⟩) (Kd.R_types HO_121001.out BK132.out (by decide)) (fun _ hk => hk.2) (.int .i64 t126)) (fun _ hk => hk.2) (.slice Ao62 t127.length co62)) (fun _ h_ => h_.1))) hb); have n3_ := Aside0.mk (Kd.R_below (by (with_reducible repeat (first | apply Kd.R_alloc | apply Kd.R_drewN | apply Kd.R_drew)); exact (Kd.R_mono (Kd.R_far (p := ⟨gb132, 1, none⟩) (Kd.R_far (p := ⟨gb132, 0, none⟩) (Kd.R_types HO129.out BK132.out (by decide)) (fun _ hk => hk.2) (.int .i64 t126)) (fun _ hk => hk.2) (.slice Ao62 t127.length co62)) (fun _ h_ => h_.1))) hb); have n4_ := Aside0.mk (blk_below (g := gb112) (o := .cells #[.int .i64 t106, .slice Ao18 t107.length co18] 67 (0, 0)) (by (with_reducible repeat (first | refine blk_drewN ?_ _ | refine blk_drew ?_ | refine blk_alloc ?_ _)); refine blk_far ?_ NB112_132.out _; (with_reducible repeat (first | refine blk_drewN ?_ _ | refine blk_drew ?_ | refine blk_alloc ?_ _)); refine blk_far ?_ NB112_132.out _; (with_reducible repeat (first | refine blk_drewN ?_ _ | refine blk_drew ?_ | refine blk_alloc ?_ _)); exact BK112.out) hb); have n5_ := Aside0.mk (blk_below (g := gb120) (o := .cells #[.int .i64 t114, .slice Ao37 t115.length co37] 67 (0, 0)) (by (with_reducible repeat (first | refine blk_drewN ?_ _ | refine blk_drew ?_ | refine blk_alloc ?_ _)); refine blk_far ?_ NB120_132.out _; (with_reducible repeat (first | refine blk_drewN ?_ _ | refine blk_drew ?_ | refine blk_alloc ?_ _)); refine blk_far ?_ NB120_132.out _; (with_reducible repeat (first | refine blk_drewN ?_ _ | refine blk_drew ?_ | refine blk_alloc ?_ _)); exact BK120.out) hb); have n6_ := Aside0.mk (blk_below (g := gb132) (o := .cells #[.int .i64 t126, .slice Ao62 t127.length co62] 67 (0, 0)) (by (with_reducible repeat (first | refine blk_drewN ?_ _ | refine blk_drew ?_ | refine blk_alloc ?_ _)); refine blk_put (cs := #[.int .i64 t126, .slice none 0 0]) ?_ 1 _ rfl; (with_reducible repeat (first | refine blk_drewN ?_ _ | refine blk_drew ?_ | refine blk_alloc ?_ _)); refine blk_put (cs := #[.int .i64 0, .slice none 0 0]) ?_ 0 _ rfl; (with_reducible repeat (first | refine blk_drewN ?_ _ | refine blk_drew ?_ | refine blk_alloc ?_ _)); exact BK132.out) hb); have n7_ := Aside0.mk (below_step (by repeat (first | (with_reducible first | exact HB.out | apply below_alloc | apply pw_below_drewN | apply below_drew1 | refine below_set ?_ GE112.out | refine below_set ?_ GE120.out | refine below_set ?_ GE132.out) | exact HB.out)) hb); clear HO_19; clear HO_113001; clear HO_121001; clear HO129; clear BK112; clear BK120; clear BK132; clear HB; have HO_19 := n0_; have HO_113001 := n1_; have HO_121001 := n2_; have HO129 := n3_; have BK112 := n4_; have BK120 := n5_; have BK132 := n6_; have HB := n7_; clear n0_ n1_ n2_ n3_ n4_ n5_ n6_ n7_; (try clear hb); (try clear hb2); (try clear hk); (try clear hi)))
                                        go_ret
                                        exact ⟨by first | rfl | (simp [errW_none, errW_some] <;> rfl) | (simp [*, errW_none, errW_some] <;> rfl), by repeat (first | (with_reducible first | exact HB.out | apply below_alloc | apply pw_below_drewN | apply below_drew1 | refine below_set ?_ GE112.out | refine below_set ?_ GE120.out | refine below_set ?_ GE132.out) | exact HB.out)⟩
                                      · rw [if_neg c54] at H
                                        have c54b0 : ((t131 == 4) == (decide (t121 < 8192))) = false := by simpa using c54
                                        (try (have c54b1 : decide ((t131 == 4) = (decide (t121 < 8192))) = false := by simpa using c54))
                                        (try (have c54b2 : ((t131 == 4) == (decide (t121 < 8192))) = false := by simpa using c54))
                                        (try (have c54b3 : ¬ ((t131 == 4) = (decide (t121 < 8192))) := by simpa using c54))
                                        clear c54
                                        obtain rfl := Option.some.inj H
                                        have hcv64 := own_string (P := Tryd.prog) Tryd.underlying71 Tryd.underlying5 Tryd.underlying9 (Kd.own_of_R HO_19.out)
                                        go_wp2_with (first | ((with_reducible refine gate_callee (f := 33) rfl ?_); refine goesL_ (some 101) rfl rfl Tryd.func33 (by kernel_rfl) rfl #[.string (strOfNums x19_4)] rfl (by (try simp only [List.map_toArray, List.map_cons, List.map_nil]); first | done | rfl | (simp only [List.length_drop, List.length_take]; rfl)) ?_; (with_reducible refine (head_Read.calls k4 (strOfNums x19_4) t126 t127 t130 t131 _ (maxis_below HMX.out (by repeat (first | (with_reducible first | exact HB.out | apply below_alloc | apply pw_below_drewN | apply below_drew1) | exact HB.out | (refine Below.setCell ?_ ?_ _) | (first | exact GW112.out | exact GW120.out | exact GW132.out)))) A52.out).mono ?_); rintro e w65 ⟨v128, rfl, ho0, hb⟩; refine ⟨_, rfl, ?_⟩; have n0_ := Aside0.mk (Kd.R_below (by (with_reducible repeat (first | apply Kd.R_alloc | apply Kd.R_drewN | apply Kd.R_drew)); exact HO_19.out) hb); have n1_ := Aside0.mk (Kd.R_elder' (by (with_reducible repeat (first | apply Kd.R_alloc | apply Kd.R_drewN | apply Kd.R_drew)); exact HO_113001.out) (Kd.R_base ho0) hb); have n2_ := Aside0.mk (Kd.R_elder' (by (with_reducible repeat (first | apply Kd.R_alloc | apply Kd.R_drewN | apply Kd.R_drew)); exact HO_121001.out) (Kd.R_base ho0) hb); have n3_ := Aside0.mk (Kd.R_lower (Kd.R_new' (Kd.R_new' ho0 (Kd.R_lt (by (with_reducible repeat (first | apply Kd.R_alloc | apply Kd.R_drewN | apply Kd.R_drew)); exact HO_113001.out))) (Kd.R_lt (by (with_reducible repeat (first | apply Kd.R_alloc | apply Kd.R_drewN | apply Kd.R_drew)); exact HO_121001.out))) (below_size (by repeat (first | (with_reducible first | exact HB.out | apply below_alloc | apply pw_below_drewN | apply below_drew1 | refine below_set ?_ GE112.out | refine below_set ?_ GE120.out) | exact HB.out)))); have n4_ := Aside0.mk (blk_below (g := gb112) (o := .cells #[.int .i64 t106, .slice Ao18 t107.length co18] 67 (0, 0)) (by (with_reducible repeat (first | refine blk_drewN ?_ _ | refine blk_drew ?_ | refine blk_alloc ?_ _)); exact BK112.out) hb); have n5_ := Aside0.mk (blk_below (g := gb120) (o := .cells #[.int .i64 t114, .slice Ao37 t115.length co37] 67 (0, 0)) (by (with_reducible repeat (first | refine blk_drewN ?_ _ | refine blk_drew ?_ | refine blk_alloc ?_ _)); exact BK120.out) hb); have n6_ := Aside0.mk (below_step (by repeat (first | (with_reducible first | exact HB.out | apply below_alloc | apply pw_below_drewN | apply below_drew1 | refine below_set ?_ GE112.out | refine below_set ?_ GE120.out) | exact HB.out)) hb); clear HO_19; clear HO_113001; clear HO_121001; clear BK112; clear BK120; clear HB; have HO_19 := n0_; have HO_113001 := n1_; have HO_121001 := n2_; have HO129 := n3_; have BK112 := n4_; have BK120 := n5_; have HB := n6_; clear n0_ n1_ n2_ n3_ n4_ n5_ n6_; (try clear hb); (try clear hb2); (try clear hk); (try clear hi); (try clear ho0)) | ((with_reducible refine gate_dst (N := 21) rfl ?_); (try (refine gate_guard (by rfl) ?_; dsimp only)); refine box_event ?hg (N := 21) ?hd (cs := #[.int .i64 0, .slice none 0 0]) (t := 67) ?hr ?_; (case hd => rfl); (case hg => rfl); (case hr => first | (go_simp; done) | (go_simp; rfl)); intro gb132 hg w66 hbox hb; have n0_ := Aside0.mk (Kd.R_below (by (with_reducible repeat (first | apply Kd.R_alloc | apply Kd.R_drewN | apply Kd.R_drew)); exact HO_19.out) hb); have n1_ := Aside0.mk (Kd.R_below (by (with_reducible repeat (first | apply Kd.R_alloc | apply Kd.R_drewN | apply Kd.R_drew)); exact HO_113001.out) hb); have n2_ := Aside0.mk (Kd.R_below (by (with_reducible repeat (first | apply Kd.R_alloc | apply Kd.R_drewN | apply Kd.R_drew)); exact HO_121001.out) hb); have n3_ := Aside0.mk (Kd.R_below (by (with_reducible repeat (first | apply Kd.R_alloc | apply Kd.R_drewN | apply Kd.R_drew)); exact HO129.out) hb); have n4_ := Aside0.mk (blk_below (g := gb112) (o := .cells #[.int .i64 t106, .slice Ao18 t107.length co18] 67 (0, 0)) (by (with_reducible repeat (first | refine blk_drewN ?_ _ | refine blk_drew ?_ | refine blk_alloc ?_ _)); exact BK112.out) hb); have n5_ := Aside0.mk (blk_below (g := gb120) (o := .cells #[.int .i64 t114, .slice Ao37 t115.length co37] 67 (0, 0)) (by (with_reducible repeat (first | refine blk_drewN ?_ _ | refine blk_drew ?_ | refine blk_alloc ?_ _)); exact BK120.out) hb); have n6_ := Aside0.mk (below_step (by repeat (first | (with_reducible first | exact HB.out | apply below_alloc | apply pw_below_drewN | apply below_drew1 | refine below_set ?_ GE112.out | refine below_set ?_ GE120.out) | exact HB.out)) hb); have n7_ := Aside0.mk (hbox); have n8_ := Aside0.mk ((by rw [hg]; exact (below_size (by repeat (first | (with_reducible first | exact HB.out | apply below_alloc | apply pw_below_drewN | apply below_drew1 | refine below_set ?_ GE112.out | refine below_set ?_ GE120.out) | exact HB.out))) : w.heap.size ≤ gb132)); have n9_ := Aside0.mk ((by rw [hg]; exact (below_size (by repeat (first | (with_reducible first | exact HB.out | apply below_alloc | apply pw_below_drewN | apply below_drew1 | refine below_set ?_ GE112.out | refine below_set ?_ GE120.out) | exact HB.out))) : w.heap.size ≤ gb132)); have n10_ := Aside0.mk ((by rw [hg]; exact Nat.ne_of_lt (blk_lt (g := gb112) (o := .cells #[.int .i64 t106, .slice Ao18 t107.length co18] 67 (0, 0)) (by (with_reducible repeat (first | refine blk_drewN ?_ _ | refine blk_drew ?_ | refine blk_alloc ?_ _)); exact BK112.out)) : gb112 ≠ gb132)); have n11_ := Aside0.mk ((by rw [hg]; exact Nat.ne_of_gt (blk_lt (g := gb112) (o := .cells #[.int .i64 t106, .slice Ao18 t107.length co18] 67 (0, 0)) (by (with_reducible repeat (first | refine blk_drewN ?_ _ | refine blk_drew ?_ | refine blk_alloc ?_ _)); exact BK112.out)) : gb132 ≠ gb112)); have n12_ := Aside0.mk ((by rw [hg]; exact Nat.ne_of_lt (blk_lt (g := gb120) (o := .cells #[.int .i64 t114, .slice Ao37 t115.length co37] 67 (0, 0)) (by (with_reducible repeat (first | refine blk_drewN ?_ _ | refine blk_drew ?_ | refine blk_alloc ?_ _)); exact BK120.out)) : gb120 ≠ gb132)); have n13_ := Aside0.mk ((by rw [hg]; exact Nat.ne_of_gt (blk_lt (g := gb120) (o := .cells #[.int .i64 t114, .slice Ao37 t115.length co37] 67 (0, 0)) (by (with_reducible repeat (first | refine blk_drewN ?_ _ | refine blk_drew ?_ | refine blk_alloc ?_ _)); exact BK120.out)) : gb132 ≠ gb120)); clear HO_19; clear HO_113001; clear HO_121001; clear HO129; clear BK112; clear BK120; clear HB; have HO_19 := n0_; have HO_113001 := n1_; have HO_121001 := n2_; have HO129 := n3_; have BK112 := n4_; have BK120 := n5_; have HB := n6_; have BK132 := n7_; have GW132 := n8_; have GE132 := n9_; have NB112_132 := n10_; have NB132_112 := n11_; have NB120_132 := n12_; have NB132_120 := n13_; clear n0_ n1_ n2_ n3_ n4_ n5_ n6_ n7_ n8_ n9_ n10_ n11_ n12_ n13_; clear hb hbox hg; have hnb67 := NB132_112.out; have hnc67 := NB112_132.out; have hnb68 := NB132_120.out; have hnc68 := NB120_132.out; have hcz69_0 : w66.cell? ⟨gb132, 0, none⟩ = some (.int .i64 0) := (blk_cell BK132.out 0).trans rfl; have hcz69_1 : w66.cell? ⟨gb132, 1, none⟩ = some (.slice none 0 0) := (blk_cell BK132.out 1).trans rfl; have hfz69_0 := blk_frozen BK132.out 0; have hfz69_1 := blk_frozen BK132.out 1; obtain ⟨Ao70, co70, eo70⟩ := Kd.R_slice HO129.out; subst eo70))
                                        go_ret
                                        exact ⟨by first | rfl | (simp [errW_none, errW_some] <;> rfl) | (simp [*, errW_none, errW_some] <;> rfl), by repeat (first | (with_reducible first | exact HB.out | apply below_alloc | apply pw_below_drewN | apply below_drew1 | refine below_set ?_ GE112.out | refine below_set ?_ GE120.out | refine below_set ?_ GE132.out) | exact HB.out)⟩
                                    · rw [if_neg c53] at H
                                      have c53b0 : ((t131 == 3) == (decide (t121 ≥ 8192))) = false := by simpa using c53
                                      (try (have c53b1 : decide ((t131 == 3) = (decide (t121 ≥ 8192))) = false := by simpa using c53))
                                      (try (have c53b2 : ((t131 == 3) == (decide (t121 ≥ 8192))) = false := by simpa using c53))
                                      (try (have c53b3 : ¬ ((t131 == 3) = (decide (t121 ≥ 8192))) := by simpa using c53))
                                      clear c53
                                      obtain rfl := Option.some.inj H
                                      have hcv71 := own_string (P := Tryd.prog) Tryd.underlying71 Tryd.underlying5 Tryd.underlying9 (Kd.own_of_R HO_19.out)
                                      go_wp2_with (first | ((with_reducible refine gate_callee (f := 33) rfl ?_); refine goesL_ (some 101) rfl rfl Tryd.func33 (by kernel_rfl) rfl #[.string (strOfNums x19_4)] rfl (by (try simp only [List.map_toArray, List.map_cons, List.map_nil]); first | done | rfl | (simp only [List.length_drop, List.length_take]; rfl)) ?_; (with_reducible refine (head_Read.calls k4 (strOfNums x19_4) t126 t127 t130 t131 _ (maxis_below HMX.out (by repeat (first | (with_reducible first | exact HB.out | apply below_alloc | apply pw_below_drewN | apply below_drew1) | exact HB.out | (refine Below.setCell ?_ ?_ _) | (first | exact GW112.out | exact GW120.out | exact GW132.out)))) A52.out).mono ?_); rintro e w72 ⟨v128, rfl, ho0, hb⟩; refine ⟨_, rfl, ?_⟩; have n0_ := Aside0.mk (Kd.R_below (by (with_reducible repeat (first | apply Kd.R_alloc | apply Kd.R_drewN | apply Kd.R_drew)); exact HO_19.out) hb); have n1_ := Aside0.mk (Kd.R_elder' (by (with_reducible repeat (first | apply Kd.R_alloc | apply Kd.R_drewN | apply Kd.R_drew)); exact HO_113001.out) (Kd.R_base ho0) hb); have n2_ := Aside0.mk (Kd.R_elder' (by (with_reducible repeat (first | apply Kd.R_alloc | apply Kd.R_drewN | apply Kd.R_drew)); exact HO_121001.out) (Kd.R_base ho0) hb); have n3_ := Aside0.mk (Kd.R_lower (Kd.R_new' (Kd.R_new' ho0 (Kd.R_lt (by (with_reducible repeat (first | apply Kd.R_alloc | apply Kd.R_drewN | apply Kd.R_drew)); exact HO_113001.out))) (Kd.R_lt (by (with_reducible repeat (first | apply Kd.R_alloc | apply Kd.R_drewN | apply Kd.R_drew)); exact HO_121001.out))) (below_size (by repeat (first | (with_reducible first | exact HB.out | apply below_alloc | apply pw_below_drewN | apply below_drew1 | refine below_set ?_ GE112.out | refine below_set ?_ GE120.out) | exact HB.out)))); have n4_ := Aside0.mk (blk_below (g := gb112) (o := .cells #[.int .i64 t106, .slice Ao18 t107.length co18] 67 (0, 0)) (by (with_reducible repeat (first | refine blk_drewN ?_ _ | refine blk_drew ?_ | refine blk_alloc ?_ _)); exact BK112.out) hb); have n5_ := Aside0.mk (blk_below (g := gb120) (o := .cells #[.int .i64 t114, .slice Ao37 t115.length co37] 67 (0, 0)) (by (with_reducible repeat (first | refine blk_drewN ?_ _ | refine blk_drew ?_ | refine blk_alloc ?_ _)); exact BK120.out) hb); have n6_ := Aside0.mk (below_step (by repeat (first | (with_reducible first | exact HB.out | apply below_alloc | apply pw_below_drewN | apply below_drew1 | refine below_set ?_ GE112.out | refine below_set ?_ GE120.out) | exact HB.out)) hb); clear HO_19; clear HO_113001; clear HO_121001; clear BK112; clear BK120; clear HB; have HO_19 := n0_; have HO_113001 := n1_; have HO_121001 := n2_; have HO129 := n3_; have BK112 := n4_; have BK120 := n5_; have HB := n6_; clear n0_ n1_ n2_ n3_ n4_ n5_ n6_; (try clear hb); (try clear hb2); (try clear hk); (try clear hi); (try clear ho0)) | ((with_reducible refine gate_dst (N := 21) rfl ?_); (try (refine gate_guard (by rfl) ?_; dsimp only)); refine box_event ?hg (N := 21) ?hd (cs := #[.int .i64 0, .slice none 0 0]) (t := 67) ?hr ?_; (case hd => rfl); (case hg => rfl); (case hr => first | (go_simp; done) | (go_simp; rfl)); intro gb132 hg w73 hbox hb; have n0_ := Aside0.mk (Kd.R_below (by (with_reducible repeat (first | apply Kd.R_alloc | apply Kd.R_drewN | apply Kd.R_drew)); exact HO_19.out) hb); have n1_ := Aside0.mk (Kd.R_below (by (with_reducible repeat (first | apply Kd.R_alloc | apply Kd.R_drewN | apply Kd.R_drew)); exact HO_113001.out) hb); have n2_ := Aside0.mk (Kd.R_below (by (with_reducible repeat (first | apply Kd.R_alloc | apply Kd.R_drewN | apply Kd.R_drew)); exact HO_121001.out) hb); have n3_ := Aside0.mk (Kd.R_below (by (with_reducible repeat (first | apply Kd.R_alloc | apply Kd.R_drewN | apply Kd.R_drew)); exact HO129.out) hb); have n4_ := Aside0.mk (blk_below (g := gb112) (o := .cells #[.int .i64 t106, .slice Ao18 t107.length co18] 67 (0, 0)) (by (with_reducible repeat (first | refine blk_drewN ?_ _ | refine blk_drew ?_ | refine blk_alloc ?_ _)); exact BK112.out) hb); have n5_ := Aside0.mk (blk_below (g := gb120) (o := .cells #[.int .i64 t114, .slice Ao37 t115.length co37] 67 (0, 0)) (by (with_reducible repeat (first | refine blk_drewN ?_ _ | refine blk_drew ?_ | refine blk_alloc ?_ _)); exact BK120.out) hb); have n6_ := Aside0.mk (below_step (by repeat (first | (with_reducible first | exact HB.out | apply below_alloc | apply pw_below_drewN | apply below_drew1 | refine below_set ?_ GE112.out | refine below_set ?_ GE120.out) | exact HB.out)) hb); have n7_ := Aside0.mk (hbox); have n8_ := Aside0.mk ((by rw [hg]; exact (below_size (by repeat (first | (with_reducible first | exact HB.out | apply below_alloc | apply pw_below_drewN | apply below_drew1 | refine below_set ?_ GE112.out | refine below_set ?_ GE120.out) | exact HB.out))) : w.heap.size ≤ gb132)); have n9_ := Aside0.mk ((by rw [hg]; exact (below_size (by repeat (first | (with_reducible first | exact HB.out | apply below_alloc | apply pw_below_drewN | apply below_drew1 | refine below_set ?_ GE112.out | refine below_set ?_ GE120.out) | exact HB.out))) : w.heap.size ≤ gb132)); have n10_ := Aside0.mk ((by rw [hg]; exact Nat.ne_of_lt (blk_lt (g := gb112) (o := .cells #[.int .i64 t106, .slice Ao18 t107.length co18] 67 (0, 0)) (by (with_reducible repeat (first | refine blk_drewN ?_ _ | refine blk_drew ?_ | refine blk_alloc ?_ _)); exact BK112.out)) : gb112 ≠ gb132)); have n11_ := Aside0.mk ((by rw [hg]; exact Nat.ne_of_gt (blk_lt (g := gb112) (o := .cells #[.int .i64 t106, .slice Ao18 t107.length co18] 67 (0, 0)) (by (with_reducible repeat (first | refine blk_drewN ?_ _ | refine blk_drew ?_ | refine blk_alloc ?_ _)); exact BK112.out)) : gb132 ≠ gb112)); have n12_ := Aside0.mk ((by rw [hg]; exact Nat.ne_of_lt (blk_lt (g := gb120) (o := .cells #[.int .i64 t114, .slice Ao37 t115.length co37] 67 (0, 0)) (by (with_reducible repeat (first | refine blk_drewN ?_ _ | refine blk_drew ?_ | refine blk_alloc ?_ _)); exact BK120.out)) : gb120 ≠ gb132)); have n13_ := Aside0.mk ((by rw [hg]; exact Nat.ne_of_gt (blk_lt (g := gb120) (o := .cells #[.int .i64 t114, .slice Ao37 t115.length co37] 67 (0, 0)) (by (with_reducible repeat (first | refine blk_drewN ?_ _ | refine blk_drew ?_ | refine blk_alloc ?_ _)); exact BK120.out)) : gb132 ≠ gb120)); clear HO_19; clear HO_113001; clear HO_121001; clear HO129; clear BK112; clear BK120; clear HB; have HO_19 := n0_; have HO_113001 := n1_; have HO_121001 := n2_; have HO129 := n3_; have BK112 := n4_; have BK120 := n5_; have HB := n6_; have BK132 := n7_; have GW132 := n8_; have GE132 := n9_; have NB112_132 := n10_; have NB132_112 := n11_; have NB120_132 := n12_; have NB132_120 := n13_; clear n0_ n1_ n2_ n3_ n4_ n5_ n6_ n7_ n8_ n9_ n10_ n11_ n12_ n13_; clear hb hbox hg; have hnb74 := NB132_112.out; have hnc74 := NB112_132.out; have hnb75 := NB132_120.out; have hnc75 := NB120_132.out; have hcz76_0 : w73.cell? ⟨gb132, 0, none⟩ = some (.int .i64 0) := (blk_cell BK132.out 0).trans rfl; have hcz76_1 : w73.cell? ⟨gb132, 1, none⟩ = some (.slice none 0 0) := (blk_cell BK132.out 1).trans rfl; have hfz76_0 := blk_frozen BK132.out 0; have hfz76_1 := blk_frozen BK132.out 1; obtain ⟨Ao77, co77, eo77⟩ := Kd.R_slice HO129.out; subst eo77))
                                      go_ret
                                      exact ⟨by first | rfl | (simp [errW_none, errW_some] <;> rfl) | (simp [*, errW_none, errW_some] <;> rfl), by repeat (first | (with_reducible first | exact HB.out | apply below_alloc | apply pw_below_drewN | apply below_drew1 | refine below_set ?_ GE112.out | refine below_set ?_ GE120.out | refine below_set ?_ GE132.out) | exact HB.out)⟩
                            · rw [if_neg c43] at H
                              exact absurd H (by simp)
                          · rw [if_neg c42] at H
                            exact absurd H (by simp)
                  · rw [if_neg c30] at H
                    exact absurd H (by simp)
    · rw [if_neg c9] at H
      exact absurd H (by simp)
  · rw [if_neg c8] at H
    exact absurd H (by simp)

/-- THE ONE PURE STATEMENT of abatislaw14_HeadEnds. -/
def abatislaw14_HeadEnds.Pure : Prop := ∀ (l0 : List (S25)) (a1 : Int) (a2 : Int) (a3 : Int), (l0.length ≤ 9223372036854775807 ∧ ∀ x_ ∈ l0, (x_.f0.size ≤ 9223372036854775807 ∧ x_.f1.size ≤ 9223372036854775807)) → (Lit.int .i64 a1).wf = true → (Lit.int .i64 a2).wf = true → (Lit.int .i64 a3).wf = true → ∃ k, abatislaw14_HeadEnds.f k l0 a1 a2 a3 = some true
-- EXT abatis/abatislaw14.HeadEnds {"rounds": 1, "making": 1, "need": 1}

end Go.Proofs.YthjhbhgfckaklaaDoor.P
