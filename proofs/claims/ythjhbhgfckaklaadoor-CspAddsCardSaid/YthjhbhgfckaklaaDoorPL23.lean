-- PRINTED by pr.py (a driver round the kit's print program): not trusted, Lean checks it.
import Derived.Test.YthjhbhgfckaklaaDoorPb
import Derived.Test.YthjhbhgfckaklaaDoorCspG
import Derived.Test.YthjhbhgfckaklaaDoorPA1
import Derived.Test.YthjhbhgfckaklaaDoorPA2
import Derived.Test.YthjhbhgfckaklaaDoorPL21
namespace Go.Proofs.YthjhbhgfckaklaaDoor.P
open Go.RowKit Go.Proofs.YthjhbhgfckaklaaDoorW.PrintWords Go.Proofs.YthjhbhgfckaklaaDoorW.PrintLast Go.Proofs.YthjhbhgfckaklaaDoorW.PrintMore
attribute [local go_sem] max2_int min2_int max_two min_two max_three min_three max_four min_four   -- for this text's walks alone
set_option linter.unusedVariables false
set_option linter.unusedSimpArgs false

/-! ### abatislaw15_CspAdds: function 4 -/
mutual
def abatislaw15_CspAdds.l0 : Nat → List (S25) → ByteArray → Bool → List (S25) → Int → Option (Bool)
  | 0, _, _, _, _, _ => none
  | k + 1, x0, x1, x2, x7, x8 => if x8 < (x0.length : Int) then (abatislaw15_CspAdds.j1 k x0 x1 x2 x7 x8 (decide (x8 < 8))) else (abatislaw15_CspAdds.j1 k x0 x1 x2 x7 x8 false)
def abatislaw15_CspAdds.j1 : Nat → List (S25) → ByteArray → Bool → List (S25) → Int → Bool → Option (Bool)
  | 0, _, _, _, _, _, _ => none
  | k + 1, x0, x1, x2, x7, x8, x20 => if x20 = true then (if 0 ≤ x8 then (if x8 < (x0.length : Int) then ((abatisref01_Few.f ((rd_T25 x0 x8).f0) 80).bind fun t130 => ((abatisref01_Few.f ((rd_T25 x0 x8).f1) 80).bind fun t132 => (if x7.length < 4398046511104 then (abatislaw15_CspAdds.l0 k x0 x1 x2 (x7 ++ [(⟨t130, t132⟩ : S25)]) (wrap64 (x8 + 1))) else (none)))) else (none)) else (none)) else (if x2 = true then (abatislaw15_CspAdds.j2 k x1 x7 (⟨#[84, 82, 69, 65, 84, 45, 65, 83, 45, 80, 85, 66, 76, 73, 67, 45, 65, 68, 68, 82, 69, 83, 83]⟩ : ByteArray)) else (abatislaw15_CspAdds.j2 k x1 x7 (⟨#[116, 114, 101, 97, 116, 45, 97, 115, 45, 112, 117, 98, 108, 105, 99, 45, 97, 100, 100, 114, 101, 115, 115]⟩ : ByteArray)))
def abatislaw15_CspAdds.j2 : Nat → ByteArray → List (S25) → ByteArray → Option (Bool)
  | 0, _, _, _ => none
  | k + 1, x1, x7, x9 => (abatisref01_Few.f x1 40).bind fun t136 => ((abatisref01_Split.f k t136 44).bind fun t137 => ((abatisref01_Join.f k t137 (⟨#[]⟩ : ByteArray)).bind fun t140 => (if ([] : List (S25)).length + x7.length < 4398046511104 then ((some (([] : List (S25)) ++ x7 : List (S25))).bind fun y141 => (if t140.size + 2 ≤ 9223372036854775807 then (if (t140 ++ (⟨#[59, 9]⟩ : ByteArray)).size + x9.size ≤ 9223372036854775807 then (if ((t140 ++ (⟨#[59, 9]⟩ : ByteArray)) ++ x9).size + 2 ≤ 9223372036854775807 then (if y141.length < 4398046511104 then ((some (([] : List (S25)) ++ x7 : List (S25))).bind fun y147 => (if y147.length < 4398046511104 then ((csp_Public.f k (y141 ++ [(⟨(⟨#[67, 79, 78, 84, 69, 78, 84, 45, 115, 101, 99, 117, 114, 105, 116, 121, 45, 80, 79, 76, 73, 67, 89]⟩ : ByteArray), ((t140 ++ (⟨#[59, 9]⟩ : ByteArray)) ++ x9) ++ (⟨#[32, 120]⟩ : ByteArray)⟩ : S25)])).bind fun t153 => (if t153 = true then ((csp_Public.f k (y147 ++ [(⟨(⟨#[88]⟩ : ByteArray), x9⟩ : S25)])).bind fun t154 => ((csp_Public.f k x7).bind fun t155 => (if (t154 == t155) = true then ((abatislaw15_lives.f k).bind fun t156 => (some t156)) else (some false)))) else (some false))) else (none))) else (none)) else (none)) else (none)) else (none))) else (none))))
end
def abatislaw15_CspAdds.f (k : Nat) (l0 : List (S25)) (a1 : ByteArray) (a2 : Bool) : Option (Bool) := abatislaw15_CspAdds.l0 k l0 a1 a2 ([] : List (S25)) 0
theorem abatislaw15_CspAdds.mono_l : ∀ k, (∀ y0 y1 y2 y3 y4, LeO (abatislaw15_CspAdds.l0 k y0 y1 y2 y3 y4) (abatislaw15_CspAdds.l0 (k + 1) y0 y1 y2 y3 y4)) ∧ (∀ y0 y1 y2 y3 y4 y5, LeO (abatislaw15_CspAdds.j1 k y0 y1 y2 y3 y4 y5) (abatislaw15_CspAdds.j1 (k + 1) y0 y1 y2 y3 y4 y5)) ∧ (∀ y0 y1 y2, LeO (abatislaw15_CspAdds.j2 k y0 y1 y2) (abatislaw15_CspAdds.j2 (k + 1) y0 y1 y2))
  | 0 => ⟨fun _ _ _ _ _ r h => by simp [abatislaw15_CspAdds.l0] at h, fun _ _ _ _ _ _ r h => by simp [abatislaw15_CspAdds.j1] at h, fun _ _ _ r h => by simp [abatislaw15_CspAdds.j2] at h⟩
  | k + 1 => by
    obtain ⟨ih0, ih1, ih2⟩ := abatislaw15_CspAdds.mono_l k
    refine ⟨?_, ?_, ?_⟩
    · intro y0 y1 y2 y3 y4
      unfold abatislaw15_CspAdds.l0
      repeat' first
      | (with_reducible exact ih0 _ _ _ _ _)
      | (with_reducible exact ih1 _ _ _ _ _ _)
      | (with_reducible exact ih2 _ _ _)
      | (with_reducible exact abatislaw15_lives.mono _)
      | (with_reducible exact abatisref01_Join.mono _ _ _)
      | (with_reducible exact abatisref01_Split.mono _ _ _)
      | (with_reducible exact csp_Public.mono _ _)
      | (with_reducible exact LeO.refl _)
      | (with_reducible exact LeO.none _)
      | (with_reducible refine LeO.ite ?_ ?_)
      | (with_reducible refine LeO.bind ?_ (fun _ => ?_))
      | exact ih0 _ _ _ _ _
      | exact ih1 _ _ _ _ _ _
      | exact ih2 _ _ _
      | exact abatislaw15_lives.mono _
      | exact abatisref01_Join.mono _ _ _
      | exact abatisref01_Split.mono _ _ _
      | exact csp_Public.mono _ _
      | exact LeO.none _
      | refine LeO.ite ?_ ?_
      | refine LeO.bind ?_ (fun _ => ?_)
    · intro y0 y1 y2 y3 y4 y5
      unfold abatislaw15_CspAdds.j1
      repeat' first
      | (with_reducible exact ih0 _ _ _ _ _)
      | (with_reducible exact ih1 _ _ _ _ _ _)
      | (with_reducible exact ih2 _ _ _)
      | (with_reducible exact abatislaw15_lives.mono _)
      | (with_reducible exact abatisref01_Join.mono _ _ _)
      | (with_reducible exact abatisref01_Split.mono _ _ _)
      | (with_reducible exact csp_Public.mono _ _)
      | (with_reducible exact LeO.refl _)
      | (with_reducible exact LeO.none _)
      | (with_reducible refine LeO.ite ?_ ?_)
      | (with_reducible refine LeO.bind ?_ (fun _ => ?_))
      | exact ih0 _ _ _ _ _
      | exact ih1 _ _ _ _ _ _
      | exact ih2 _ _ _
      | exact abatislaw15_lives.mono _
      | exact abatisref01_Join.mono _ _ _
      | exact abatisref01_Split.mono _ _ _
      | exact csp_Public.mono _ _
      | exact LeO.none _
      | refine LeO.ite ?_ ?_
      | refine LeO.bind ?_ (fun _ => ?_)
    · intro y0 y1 y2
      unfold abatislaw15_CspAdds.j2
      repeat' first
      | (with_reducible exact ih0 _ _ _ _ _)
      | (with_reducible exact ih1 _ _ _ _ _ _)
      | (with_reducible exact ih2 _ _ _)
      | (with_reducible exact abatislaw15_lives.mono _)
      | (with_reducible exact abatisref01_Join.mono _ _ _)
      | (with_reducible exact abatisref01_Split.mono _ _ _)
      | (with_reducible exact csp_Public.mono _ _)
      | (with_reducible exact LeO.refl _)
      | (with_reducible exact LeO.none _)
      | (with_reducible refine LeO.ite ?_ ?_)
      | (with_reducible refine LeO.bind ?_ (fun _ => ?_))
      | exact ih0 _ _ _ _ _
      | exact ih1 _ _ _ _ _ _
      | exact ih2 _ _ _
      | exact abatislaw15_lives.mono _
      | exact abatisref01_Join.mono _ _ _
      | exact abatisref01_Split.mono _ _ _
      | exact csp_Public.mono _ _
      | exact LeO.none _
      | refine LeO.ite ?_ ?_
      | refine LeO.bind ?_ (fun _ => ?_)
theorem abatislaw15_CspAdds.mono : ∀ a0 a1 a2 k, LeO (abatislaw15_CspAdds.f k a0 a1 a2) (abatislaw15_CspAdds.f (k + 1) a0 a1 a2) := by
  intro a0 a1 a2 k
  obtain ⟨ih0, ih1, ih2⟩ := abatislaw15_CspAdds.mono_l k
  unfold abatislaw15_CspAdds.f
  repeat' first
      | (with_reducible exact ih0 _ _ _ _ _)
      | (with_reducible exact ih1 _ _ _ _ _ _)
      | (with_reducible exact ih2 _ _ _)
      | (with_reducible exact abatislaw15_lives.mono _)
      | (with_reducible exact abatisref01_Join.mono _ _ _)
      | (with_reducible exact abatisref01_Split.mono _ _ _)
      | (with_reducible exact csp_Public.mono _ _)
      | (with_reducible exact LeO.refl _)
      | (with_reducible exact LeO.none _)
      | (with_reducible refine LeO.ite ?_ ?_)
      | (with_reducible refine LeO.bind ?_ (fun _ => ?_))
      | exact ih0 _ _ _ _ _
      | exact ih1 _ _ _ _ _ _
      | exact ih2 _ _ _
      | exact abatislaw15_lives.mono _
      | exact abatisref01_Join.mono _ _ _
      | exact abatisref01_Split.mono _ _ _
      | exact csp_Public.mono _ _
      | exact LeO.none _
      | refine LeO.ite ?_ ?_
      | refine LeO.bind ?_ (fun _ => ?_)
def abatislaw15_CspAdds.T5 : Bool × List (List Nat × List Nat) := (true, [([], []), ([], []), ([], []), ([1, 2], [1, 2]), ([3], [3]), ([4], [4]), ([5], [5]), ([], []), ([], []), ([7, 8], [7, 8]), ([9], [9]), ([10], [10]), ([11, 6], [11]), ([6, 12], [6, 12]), ([13], [13]), ([0, 14, 12], [0, 14]), ([15, 15, 0, 1, 2, 3, 4, 5, 6, 7, 8, 9, 10, 11, 12, 13, 14, 15], [0, 15])])
def abatislaw15_CspAdds.B5 : List Nat := [0, 0, 0, 6, 14, 30, 62, 0, 0, 384, 896, 1920, 4094, 8190, 16382, 32767, 65535]
theorem abatislaw15_CspAdds.tab5 : rtab .any (opsOf Tryd.f4 5) = abatislaw15_CspAdds.T5 := by kernel_rfl
theorem abatislaw15_CspAdds.bits5 : waitsOk abatislaw15_CspAdds.T5.2 abatislaw15_CspAdds.B5 = true := by kernel_rfl
set_option maxHeartbeats 8000000 in
set_option maxRecDepth 100000 in
theorem abatislaw15_CspAdds.calls (k : Nat) (A0 : Option Addr) (c0 : Nat) (l0 : List (S25)) (a1 : ByteArray) (a2 : Bool) (r : Bool) (w : World) (hr0 : Kd.C k25 w A0 l0.length l0) (hc0 : l0.length ≤ c0) (h : abatislaw15_CspAdds.f k l0 a1 a2 = some r) :
    Calls Tryd.prog 4 #[.slice A0 l0.length c0, .string a1, .bool a2] w fun e w' => e = .returned (.bool r) ∧ Below w.heap.size w w' := by
  have hu25 := Tryd.underlying25
  have HR0 := Aside0.mk hr0
  have HC0 := Aside0.mk hc0
  clear hr0 hc0
  have HB := Aside0.mk (Below.refl w.heap.size w)
  have H : (abatislaw15_CspAdds.l0 k l0 a1 a2 ([] : List (S25)) 0) = some r := h
  clear h
  have H' := Aside0.mk H
  clear H
  go_enter Tryd.func4, Tryd.ntmps4
  go_wp2
  go_loopg [7, 8] k (fun kq v7 v8 w' => ∃ (x7_1 : List (S25)) (x8_1 : Int), v8 = .int .i64 x8_1 ∧ Aside0 (abatislaw15_CspAdds.l0 kq l0 a1 a2 x7_1 x8_1 = some r) ∧ Aside0 (kq ≤ k) ∧ Aside0 (Kd.R k25 25 w' w.heap.size (fun _ => True) v7 x7_1) ∧ Aside0 (Below w.heap.size w w'))
  case atStart => exact ⟨(([] : List (S25))), (0), (by first | rfl | (simp; done) | (simp [*]; done) | (simp [bne]; done) | (simp [bne, *]; done)), H', ⟨Nat.le_refl _⟩, ⟨by first | exact Kd.R_nil _ _ _ _ _ | exact Kd.N_nil _ _ _ _ _ | exact Kd.V_nil _ _ _ _ _ | exact Kd.Q_nil _ _ _ _ _ | exact Kd.S_nil _ _ _ _ _⟩, ⟨by repeat (first | (with_reducible first | exact HB.out | apply below_alloc | apply pw_below_drewN | apply below_drew1) | exact HB.out)⟩⟩
  case round =>
    clear H'
    try clear p2
    obtain ⟨x7_1, x8_1, rfl, HA, HK1, HO_7, HB⟩ := hrel
    cases gk with
    | zero => exact absurd HA.out (by simp [abatislaw15_CspAdds.l0])
    | succ k1 =>
      have H := HA.out
      clear HA
      simp only [abatislaw15_CspAdds.l0] at H
      have HC4 := Aside0.mk H
      clear H
      go_upto_region 3 with (fail)
      go_cut [20] (fun v20 wc => ∃ (kq : Nat) (x20_3 : Bool), v20 = .bool x20_3 ∧ Aside0 (abatislaw15_CspAdds.j1 kq l0 a1 a2 x7_1 x8_1 x20_3 = some r) ∧ Aside0 (kq ≤ k1) ∧ Aside0 (Kd.R k25 25 wc w.heap.size (fun _ => True) u7 x7_1) ∧ Aside0 (Below w.heap.size w wc))
      case first =>
        have H := HC4.out
        clear HC4
        by_cases c5 : x8_1 < (l0.length : Int)
        · rw [if_pos c5] at H
          have c5b0 : decide (x8_1 < (l0.length : Int)) = true := decide_eq_true c5
          clear c5
          (first | rw [c5b0] | (simp only [i64_w, i32_w]; rw [c5b0]) | skip)
          have H' := Aside0.mk H
          clear H
          go_wp2
          go_meet
          case rel => exact ⟨_, (decide (x8_1 < 8)), (by first | rfl | (simp; done) | (simp [*]; done) | (simp [bne]; done) | (simp [bne, *]; done)), H', ⟨by have := HK1.out; first | omega | exact Nat.le_refl _⟩, ⟨by (with_reducible repeat (first | apply Kd.R_alloc | apply Kd.R_drewN | apply Kd.R_drew)); exact HO_7.out⟩, ⟨by repeat (first | (with_reducible first | exact HB.out | apply below_alloc | apply pw_below_drewN | apply below_drew1) | exact HB.out)⟩⟩
        · rw [if_neg c5] at H
          have c5b0 : decide (x8_1 < (l0.length : Int)) = false := decide_eq_false c5
          clear c5
          (first | rw [c5b0] | (simp only [i64_w, i32_w]; rw [c5b0]) | skip)
          have H' := Aside0.mk H
          clear H
          go_wp2
          go_meet
          case rel => exact ⟨_, (false), (by first | rfl | (simp; done) | (simp [*]; done) | (simp [bne]; done) | (simp [bne, *]; done)), H', ⟨by have := HK1.out; first | omega | exact Nat.le_refl _⟩, ⟨by (with_reducible repeat (first | apply Kd.R_alloc | apply Kd.R_drewN | apply Kd.R_drew)); exact HO_7.out⟩, ⟨by repeat (first | (with_reducible first | exact HB.out | apply below_alloc | apply pw_below_drewN | apply below_drew1) | exact HB.out)⟩⟩
      case rest =>
        clear HC4
        try clear p2
        try clear c4
        try clear c5
        try clear c5b0
        try clear p2
        obtain ⟨kq, x20_3, rfl, HA, HJ3, HO_7, HB⟩ := hcut
        cases kq with
        | zero => exact absurd HA.out (by simp [abatislaw15_CspAdds.j1])
        | succ kj3 =>
          have H := HA.out
          clear HA
          simp only [abatislaw15_CspAdds.j1] at H
          by_cases c6 : x20_3 = true
          · subst c6
            have H1 : (if 0 ≤ x8_1 then (if x8_1 < (l0.length : Int) then ((abatisref01_Few.f ((rd_T25 l0 x8_1).f0) 80).bind fun t130 => ((abatisref01_Few.f ((rd_T25 l0 x8_1).f1) 80).bind fun t132 => (if x7_1.length < 4398046511104 then (abatislaw15_CspAdds.l0 kj3 l0 a1 a2 (x7_1 ++ [(⟨t130, t132⟩ : S25)]) (wrap64 (x8_1 + 1))) else (none)))) else (none)) else (none)) = some r := by rw [if_pos rfl] at H; exact H
            clear H
            have H := H1
            clear H1
            by_cases c7 : 0 ≤ x8_1
            · rw [if_pos c7] at H
              have c7b0 : decide (0 ≤ x8_1) = true := decide_eq_true c7
              clear c7
              by_cases c8 : x8_1 < (l0.length : Int)
              · rw [if_pos c8] at H
                have c8b0 : decide (x8_1 < (l0.length : Int)) = true := decide_eq_true c8
                clear c8
                replace H := Option.bind_eq_some_iff.mp H
                obtain ⟨t130, A90, H⟩ := H
                replace H : ((abatisref01_Few.f ((rd_T25 l0 x8_1).f1) 80).bind fun t132 => (if x7_1.length < 4398046511104 then (abatislaw15_CspAdds.l0 kj3 l0 a1 a2 (x7_1 ++ [(⟨t130, t132⟩ : S25)]) (wrap64 (x8_1 + 1))) else (none))) = some r := H
                have A9 := Aside0.mk A90
                clear A90
                replace H := Option.bind_eq_some_iff.mp H
                obtain ⟨t132, A100, H⟩ := H
                replace H : (if x7_1.length < 4398046511104 then (abatislaw15_CspAdds.l0 kj3 l0 a1 a2 (x7_1 ++ [(⟨t130, t132⟩ : S25)]) (wrap64 (x8_1 + 1))) else (none)) = some r := H
                have A10 := Aside0.mk A100
                clear A100
                by_cases c11 : x7_1.length < 4398046511104
                · rw [if_pos c11] at H
                  have LMc11 := Aside0.mk c11
                  clear c11
                  obtain ⟨y133, hy133⟩ : ∃ y_ : List (S25), y_ = (x7_1 ++ [(⟨t130, t132⟩ : S25)]) := ⟨_, rfl⟩
                  replace H : (abatislaw15_CspAdds.l0 kj3 l0 a1 a2 y133 (wrap64 (x8_1 + 1))) = some r := by first | (rw [hy133]; with_reducible exact H) | (have H2_ := (Option.bind_some _ _).symm.trans H; rw [hy133]; with_reducible exact H2_) | (have H2_ := (Option.bind_some _ _).symm.trans H; with_reducible exact H2_) | with_reducible exact H | (rw [hy133]; exact H) | exact H
                  have Ny133 := Aside0.mk hy133
                  clear hy133
                  have H' := Aside0.mk H
                  clear H
                  try go_wp2
                  have n0_ := Aside0.mk (Kd.R_drew HO_7.out)
                  have n1_ := Aside0.mk (below_drew1 HB.out)
                  clear HO_7
                  clear HB
                  have HO_7 := n0_
                  have HB := n1_
                  clear n0_ n1_
                  have p129 : 0 ≤ (x8_1 : Int) := of_decide_eq_true (by first | (with_reducible assumption) | assumption)
                  have q129 : x8_1 < (l0.length : Int) := of_decide_eq_true (by first | (with_reducible assumption) | assumption)
                  obtain ⟨ad129, e129, hx129_0, hx129_1⟩ := at_T25 HR0.out x8_1 p129 q129
                  have hw129_1 := hx129_1
                  have hw129_0 := hx129_0
                  cases e129
                  replace hx129_0 := (HB.out.cell (World.block_lt_of_cell? w _ hx129_0)).trans hx129_0
                  replace hx129_1 := (HB.out.cell (World.block_lt_of_cell? w _ hx129_1)).trans hx129_1
                  replace p129 := eq_true p129
                  replace q129 := eq_true q129
                  have p131 : 0 ≤ (x8_1 : Int) := of_decide_eq_true (by first | (with_reducible assumption) | assumption)
                  have q131 : x8_1 < (l0.length : Int) := of_decide_eq_true (by first | (with_reducible assumption) | assumption)
                  obtain ⟨ad131, e131, hx131_0, hx131_1⟩ := at_T25 HR0.out x8_1 p131 q131
                  have hw131_1 := hx131_1
                  have hw131_0 := hx131_0
                  obtain rfl : ad129 = ad131 := (by injection e131)
                  replace hx131_0 := (HB.out.cell (World.block_lt_of_cell? w _ hx131_0)).trans hx131_0
                  replace hx131_1 := (HB.out.cell (World.block_lt_of_cell? w _ hx131_1)).trans hx131_1
                  replace p131 := eq_true p131
                  replace q131 := eq_true q131
                  refine start_ (n := 17) (S := fun w' => w'.cell? (ad129.add ((x8_1).toNat * 2)) = some (.string ((rd_T25 l0 x8_1).f0)) ∧ w'.cell? ⟨(ad129.add ((x8_1).toNat * 2)).block, (ad129.add ((x8_1).toNat * 2)).off + 1, none⟩ = some (.string ((rd_T25 l0 x8_1).f1)) ∧ w'.cell? (ad129.add ((x8_1).toNat * 2)) = some (.string ((rd_T25 l0 x8_1).f0)) ∧ w'.cell? ⟨(ad129.add ((x8_1).toNat * 2)).block, (ad129.add ((x8_1).toNat * 2)).off + 1, none⟩ = some (.string ((rd_T25 l0 x8_1).f1))) (ds := []) #[false, false, false, false, false, false, false, false, false, false, false, false, false, false, false, false, false] (by kernel_rfl) rfl rfl ⟨((HB.out.cell (World.block_lt_of_cell? w _ hw129_0)).trans hw129_0), ((HB.out.cell (World.block_lt_of_cell? w _ hw129_1)).trans hw129_1), ((HB.out.cell (World.block_lt_of_cell? w _ hw131_0)).trans hw131_0), ((HB.out.cell (World.block_lt_of_cell? w _ hw131_1)).trans hw131_1)⟩ (fun hHeld => ?_); refine with_tabW abatislaw15_CspAdds.tab5 abatislaw15_CspAdds.bits5 (fun HT_ HW_ => ?_)
                  generalize wc.drew = w12 at HO_7 HB hx129_0 hx129_1 hx131_0 hx131_1 hHeld ⊢
                  refine pure_ (i := 0) (N := some 23) (v := ?_) (a' := ?_) #[true, false, false, false, false, false, false, false, false, false, false, false, false, false, false, false, false] rfl rfl (any_of HT_.out (by kernel_rfl)) (fun _ _ _ h => h) (Or.inl ⟨by rfl, ?_⟩) ?_ ?_
                  rotate_left
                  · intro w'
                    go_simp
                    with_reducible rfl
                  rotate_left
                  · simp only [Act.put, List.setIfInBounds_toArray, List.set_cons_zero, List.set_cons_succ, i64_w, i32_w]
                    rfl
                  refine pure_ (i := 1) (N := some 24) (v := ?_) (a' := ?_) #[true, true, false, false, false, false, false, false, false, false, false, false, false, false, false, false, false] rfl rfl (any_of HT_.out (by kernel_rfl)) (fun _ _ _ h => h) (Or.inl ⟨by rfl, ?_⟩) ?_ ?_
                  rotate_left
                  · intro w'
                    go_simp
                    with_reducible rfl
                  rotate_left
                  · simp only [Act.put, List.setIfInBounds_toArray, List.set_cons_zero, List.set_cons_succ, i64_w, i32_w]
                    rfl
                  refine pure_ (i := 2) (N := some 25) (v := ?_) (a' := ?_) #[true, true, true, false, false, false, false, false, false, false, false, false, false, false, false, false, false] rfl rfl (any_of HT_.out (by kernel_rfl)) (fun _ _ _ h => h) (Or.inl ⟨by rfl, ?_⟩) ?_ ?_
                  rotate_left
                  · intro w'
                    go_simp
                    with_reducible rfl
                  rotate_left
                  · simp only [Act.put, List.setIfInBounds_toArray, List.set_cons_zero, List.set_cons_succ, i64_w, i32_w]
                    rfl
                  refine pure_ (i := 3) (N := some 26) (v := ?_) (a' := ?_) #[true, true, true, true, false, false, false, false, false, false, false, false, false, false, false, false, false] rfl rfl (any_of HT_.out (by kernel_rfl)) (fun _ _ _ h => h) (Or.inl ⟨by rfl, ?_⟩) ?_ ?_
                  rotate_left
                  · intro w'
                    go_simp
                    with_reducible rfl
                  rotate_left
                  · simp only [Act.put, List.setIfInBounds_toArray, List.set_cons_zero, List.set_cons_succ, i64_w, i32_w]
                    rfl
                  refine pure_ (i := 4) (N := some 27) (v := ?_) (a' := ?_) #[true, true, true, true, true, false, false, false, false, false, false, false, false, false, false, false, false] rfl rfl (any_of HT_.out (by kernel_rfl)) (fun _ _ _ h => h) (Or.inl ⟨by rfl, ?_⟩) ?_ ?_
                  rotate_left
                  · intro w'
                    go_simp
                    with_reducible rfl
                  rotate_left
                  · simp only [Act.put, List.setIfInBounds_toArray, List.set_cons_zero, List.set_cons_succ, i64_w, i32_w]
                    rfl
                  refine pure_ (i := 7) (N := some 30) (v := ?_) (a' := ?_) #[true, true, true, true, true, false, false, true, false, false, false, false, false, false, false, false, false] rfl rfl (any_of HT_.out (by kernel_rfl)) (fun _ _ _ h => h) (Or.inl ⟨by rfl, ?_⟩) ?_ ?_
                  rotate_left
                  · intro w'
                    go_simp
                    with_reducible rfl
                  rotate_left
                  · simp only [Act.put, List.setIfInBounds_toArray, List.set_cons_zero, List.set_cons_succ, i64_w, i32_w]
                    rfl
                  refine pure_ (i := 8) (N := some 31) (v := ?_) (a' := ?_) #[true, true, true, true, true, false, false, true, true, false, false, false, false, false, false, false, false] rfl rfl (any_of HT_.out (by kernel_rfl)) (fun _ _ _ h => h) (Or.inl ⟨by rfl, ?_⟩) ?_ ?_
                  rotate_left
                  · intro w'
                    go_simp
                    with_reducible rfl
                  rotate_left
                  · simp only [Act.put, List.setIfInBounds_toArray, List.set_cons_zero, List.set_cons_succ, i64_w, i32_w]
                    rfl
                  refine pure_ (i := 9) (N := some 32) (v := ?_) (a' := ?_) #[true, true, true, true, true, false, false, true, true, true, false, false, false, false, false, false, false] rfl rfl (any_of HT_.out (by kernel_rfl)) (fun _ _ _ h => h) (Or.inl ⟨by rfl, ?_⟩) ?_ ?_
                  rotate_left
                  · intro w'
                    go_simp
                    with_reducible rfl
                  rotate_left
                  · simp only [Act.put, List.setIfInBounds_toArray, List.set_cons_zero, List.set_cons_succ, i64_w, i32_w]
                    rfl
                  refine pure_ (i := 10) (N := some 33) (v := ?_) (a' := ?_) #[true, true, true, true, true, false, false, true, true, true, true, false, false, false, false, false, false] rfl rfl (any_of HT_.out (by kernel_rfl)) (fun _ _ _ h => h) (Or.inl ⟨by rfl, ?_⟩) ?_ ?_
                  rotate_left
                  · intro w'
                    go_simp
                    with_reducible rfl
                  rotate_left
                  · simp only [Act.put, List.setIfInBounds_toArray, List.set_cons_zero, List.set_cons_succ, i64_w, i32_w]
                    rfl
                  refine take_ (i := 5) (N := some 28) (v := ?_) (a' := ?_) #[true, true, true, true, true, true, false, true, true, true, true, false, false, false, false, false, false] rfl rfl (take_ofW HT_.out HW_.out (by kernel_rfl)) (fun _ _ _ h => h) (Or.inl ⟨by rfl, ?_⟩) hHeld ?_ ?_
                  rotate_left
                  · rintro w' ⟨s0, s1, s2, s3⟩
                    go_simp
                    with_reducible rfl
                  rotate_left
                  · simp only [Act.put, List.setIfInBounds_toArray, List.set_cons_zero, List.set_cons_succ, i64_w, i32_w]
                    rfl
                  refine take_ (i := 11) (N := some 34) (v := ?_) (a' := ?_) #[true, true, true, true, true, true, false, true, true, true, true, true, false, false, false, false, false] rfl rfl (take_ofW HT_.out HW_.out (by kernel_rfl)) (fun _ _ _ h => h) (Or.inl ⟨by rfl, ?_⟩) hHeld ?_ ?_
                  rotate_left
                  · rintro w' ⟨s0, s1, s2, s3⟩
                    go_simp
                    with_reducible rfl
                  rotate_left
                  · simp only [Act.put, List.setIfInBounds_toArray, List.set_cons_zero, List.set_cons_succ, i64_w, i32_w]
                    rfl
                  refine one_ (i := 6) (N := some 29) #[true, true, true, true, true, true, true, true, true, true, true, true, false, false, false, false, false] rfl rfl (one_of HT_.out (by kernel_rfl)) (by decide) (fun K hK => ?_)
                  refine goes_ Tryd.func8 (by kernel_rfl) rfl #[.string ((rd_T25 l0 x8_1).f0), .int .i64 80] (by rfl) rfl rfl (by (try simp only [List.map_toArray, List.map_cons, List.map_nil]); first | done | rfl | (simp only [List.length_drop, List.length_take]; rfl)) ?_
                  with_reducible refine (abatisref01_Few.calls ((rd_T25 l0 x8_1).f0) 80 t130 _ A9.out).mono ?_
                  rintro e w' ⟨rfl, ⟨nd, rfl⟩⟩
                  refine ⟨_, rfl, ?_⟩
                  refine hK.out _ _ ⟨((HB.out.cell (World.block_lt_of_cell? w _ hw129_0)).trans hw129_0), ((HB.out.cell (World.block_lt_of_cell? w _ hw129_1)).trans hw129_1), ((HB.out.cell (World.block_lt_of_cell? w _ hw131_0)).trans hw131_0), ((HB.out.cell (World.block_lt_of_cell? w _ hw131_1)).trans hw131_1)⟩ (fun hHeld => ?_)
                  clear hK K
                  refine norm_ (a' := ?_) ?_ ?_
                  rotate_left
                  · show Act.put _ (some 29) _ = _
                    simp only [Act.put, List.setIfInBounds_toArray, List.set_cons_zero, List.set_cons_succ, i64_w, i32_w]
                    rfl
                  refine one_ (i := 12) (N := some 35) #[true, true, true, true, true, true, true, true, true, true, true, true, true, false, false, false, false] rfl rfl (one_of HT_.out (by kernel_rfl)) (by decide) (fun K hK => ?_)
                  refine goes_ Tryd.func8 (by kernel_rfl) rfl #[.string ((rd_T25 l0 x8_1).f1), .int .i64 80] (by rfl) rfl rfl (by (try simp only [List.map_toArray, List.map_cons, List.map_nil]); first | done | rfl | (simp only [List.length_drop, List.length_take]; rfl)) ?_
                  with_reducible refine (abatisref01_Few.calls ((rd_T25 l0 x8_1).f1) 80 t132 _ A10.out).mono ?_
                  rintro e w' ⟨rfl, ⟨nd, rfl⟩⟩
                  refine ⟨_, rfl, ?_⟩
                  refine hK.out _ _ ⟨((HB.out.cell (World.block_lt_of_cell? w _ hw129_0)).trans hw129_0), ((HB.out.cell (World.block_lt_of_cell? w _ hw129_1)).trans hw129_1), ((HB.out.cell (World.block_lt_of_cell? w _ hw131_0)).trans hw131_0), ((HB.out.cell (World.block_lt_of_cell? w _ hw131_1)).trans hw131_1)⟩ (fun hHeld => ?_)
                  clear hK K
                  refine norm_ (a' := ?_) ?_ ?_
                  rotate_left
                  · show Act.put _ (some 35) _ = _
                    simp only [Act.put, List.setIfInBounds_toArray, List.set_cons_zero, List.set_cons_succ, i64_w, i32_w]
                    rfl
                  refine pure_ (i := 13) (N := some 36) (v := ?_) (a' := ?_) #[true, true, true, true, true, true, true, true, true, true, true, true, true, true, false, false, false] rfl rfl (any_of HT_.out (by kernel_rfl)) (fun _ _ _ h => h) (Or.inl ⟨by rfl, ?_⟩) ?_ ?_
                  rotate_left
                  · intro w'
                    go_simp
                    with_reducible rfl
                  rotate_left
                  · simp only [Act.put, List.setIfInBounds_toArray, List.set_cons_zero, List.set_cons_succ, i64_w, i32_w]
                    rfl
                  refine one_ (i := 14) (N := some 37) #[true, true, true, true, true, true, true, true, true, true, true, true, true, true, true, false, false] rfl rfl (one_of HT_.out (by kernel_rfl)) (by decide) (fun K hK => ?_)
                  refine value_ (w1 := ?_) (v := ?_) (by rfl) rfl ?_ ?_
                  rotate_left 2
                  · go_simp
                    constructor
                    · rfl
                    · rfl
                  refine hK.out _ _ ⟨(World.cell?_alloc_lt _ _ _ (World.block_lt_of_cell? _ _ (((HB.out.cell (World.block_lt_of_cell? w _ hw129_0)).trans hw129_0)))).trans (((HB.out.cell (World.block_lt_of_cell? w _ hw129_0)).trans hw129_0)), (World.cell?_alloc_lt _ _ _ (World.block_lt_of_cell? _ _ (((HB.out.cell (World.block_lt_of_cell? w _ hw129_1)).trans hw129_1)))).trans (((HB.out.cell (World.block_lt_of_cell? w _ hw129_1)).trans hw129_1)), (World.cell?_alloc_lt _ _ _ (World.block_lt_of_cell? _ _ (((HB.out.cell (World.block_lt_of_cell? w _ hw131_0)).trans hw131_0)))).trans (((HB.out.cell (World.block_lt_of_cell? w _ hw131_0)).trans hw131_0)), (World.cell?_alloc_lt _ _ _ (World.block_lt_of_cell? _ _ (((HB.out.cell (World.block_lt_of_cell? w _ hw131_1)).trans hw131_1)))).trans (((HB.out.cell (World.block_lt_of_cell? w _ hw131_1)).trans hw131_1))⟩ (fun hHeld => ?_)
                  clear hK K
                  refine norm_ (a' := ?_) ?_ ?_
                  rotate_left
                  · show Act.put _ (some 37) _ = _
                    simp only [Act.put, List.setIfInBounds_toArray, List.set_cons_zero, List.set_cons_succ, i64_w, i32_w]
                    rfl
                  refine one_ (i := 15) (N := some 38) #[true, true, true, true, true, true, true, true, true, true, true, true, true, true, true, true, false] rfl rfl (one_of HT_.out (by kernel_rfl)) (by decide) (fun K hK => ?_)
                  refine Kd.R_append_step k25 (w0 := w) w.heap.size (by rfl) (.tmp 23) (.tmp 37) 22 25 (.agg #[(.string ⟨#[]⟩), (.string ⟨#[]⟩)]) 32 rfl Tryd.underlying22 info25 rfl (by decide) (by omega) u7 x7_1 (⟨t130, t132⟩ : S25) [.string t130, .string t132] (fun _ => True) (fun _ => False) rfl rfl ?aP (fun _ hk => hk.elim) ?aF ?aO ?aB ?aS ?aL ?_
                  (case aP => exact k25_mkM _ _ _ (⟨t130, t132⟩ : S25))
                  (case aB => exact (by repeat (first | (with_reducible first | exact HB.out | apply below_alloc | apply pw_below_drewN | apply below_drew1) | exact HB.out)))
                  (case aF => exact (fun _ _ => trivial))
                  (case aO => exact (by (with_reducible repeat (first | apply Kd.R_alloc | apply Kd.R_drewN | apply Kd.R_drew)); exact HO_7.out))
                  (case aS => exact (below_size (by repeat (first | (with_reducible first | exact HB.out | apply below_alloc | apply pw_below_drewN | apply below_drew1) | exact HB.out))))
                  (case aL => have := LMc11.out; omega)
                  intro v134 w13 ho hb hg hat
                  rw [← Ny133.out] at ho
                  have n0_ := Aside0.mk (hb)
                  have n1_ := Aside0.mk (ho)
                  clear HB
                  clear HO_7
                  have HB := n0_
                  have HO135 := n1_
                  clear n0_ n1_
                  clear ho hb hg hat
                  refine hK.out _ _ ⟨((HB.out.cell (World.block_lt_of_cell? w _ hw129_0)).trans hw129_0), ((HB.out.cell (World.block_lt_of_cell? w _ hw129_1)).trans hw129_1), ((HB.out.cell (World.block_lt_of_cell? w _ hw131_0)).trans hw131_0), ((HB.out.cell (World.block_lt_of_cell? w _ hw131_1)).trans hw131_1)⟩ (fun hHeld => ?_)
                  clear hK K
                  refine norm_ (a' := ?_) ?_ ?_
                  rotate_left
                  · show Act.put _ (some 38) _ = _
                    simp only [Act.put, List.setIfInBounds_toArray, List.set_cons_zero, List.set_cons_succ, i64_w, i32_w]
                    rfl
                  refine pure_ (i := 16) (N := some 7) (v := ?_) (a' := ?_) #[true, true, true, true, true, true, true, true, true, true, true, true, true, true, true, true, true] rfl rfl (any_of HT_.out (by kernel_rfl)) (fun _ _ _ h => h) (Or.inl ⟨by rfl, ?_⟩) ?_ ?_
                  rotate_left
                  · intro w'
                    go_simp
                    with_reducible rfl
                  rotate_left
                  · simp only [Act.put, List.setIfInBounds_toArray, List.set_cons_zero, List.set_cons_succ, i64_w, i32_w]
                    rfl
                  refine done_ (done_of HT_.out (by kernel_rfl)) ?_
                  try go_wp2
                  go_roundg kj3
                  case measure => have := HK1.out; have := HJ3.out; omega
                  case rel => exact ⟨(y133), (wrap64 (x8_1 + 1)), (by first | rfl | (simp; done) | (simp [*]; done) | (simp [bne]; done) | (simp [bne, *]; done)), H', ⟨by have := HK1.out; have := HJ3.out; omega⟩, ⟨by (with_reducible repeat (first | apply Kd.R_alloc | apply Kd.R_drewN | apply Kd.R_drew)); exact HO135.out⟩, ⟨by repeat (first | (with_reducible first | exact HB.out | apply below_alloc | apply pw_below_drewN | apply below_drew1) | exact HB.out)⟩⟩
                · rw [if_neg c11] at H
                  exact absurd H (by simp)
              · rw [if_neg c8] at H
                exact absurd H (by simp)
            · rw [if_neg c7] at H
              exact absurd H (by simp)
          · replace c6 := Bool.eq_false_iff.mpr c6
            subst c6
            have H1 : (if a2 = true then (abatislaw15_CspAdds.j2 kj3 a1 x7_1 (⟨#[84, 82, 69, 65, 84, 45, 65, 83, 45, 80, 85, 66, 76, 73, 67, 45, 65, 68, 68, 82, 69, 83, 83]⟩ : ByteArray)) else (abatislaw15_CspAdds.j2 kj3 a1 x7_1 (⟨#[116, 114, 101, 97, 116, 45, 97, 115, 45, 112, 117, 98, 108, 105, 99, 45, 97, 100, 100, 114, 101, 115, 115]⟩ : ByteArray))) = some r := by rw [if_neg (show ¬ (false = true) by decide)] at H; exact H
            clear H
            have H := H1
            clear H1
            have HC14 := Aside0.mk H
            clear H
            go_upto_if 39 with (fail)
            go_cut [9] (fun v9 wc => ∃ (kq : Nat) (x9_13 : ByteArray), v9 = .string x9_13 ∧ Aside0 (abatislaw15_CspAdds.j2 kq a1 x7_1 x9_13 = some r) ∧ Aside0 (kq ≤ kj3) ∧ Aside0 (Kd.R k25 25 wc w.heap.size (fun _ => True) u7 x7_1) ∧ Aside0 (Below w.heap.size w wc))
            case first =>
              have H := HC14.out
              clear HC14
              by_cases c15 : a2 = true
              · subst c15
                have H1 : (abatislaw15_CspAdds.j2 kj3 a1 x7_1 (⟨#[84, 82, 69, 65, 84, 45, 65, 83, 45, 80, 85, 66, 76, 73, 67, 45, 65, 68, 68, 82, 69, 83, 83]⟩ : ByteArray)) = some r := by rw [if_pos rfl] at H; exact H
                clear H
                have H := H1
                clear H1
                have H' := Aside0.mk H
                clear H
                go_wp2
                go_meet
                case rel => exact ⟨_, ((⟨#[84, 82, 69, 65, 84, 45, 65, 83, 45, 80, 85, 66, 76, 73, 67, 45, 65, 68, 68, 82, 69, 83, 83]⟩ : ByteArray)), (by first | rfl | (simp; done) | (simp [*]; done) | (simp [bne]; done) | (simp [bne, *]; done)), H', ⟨by have := HK1.out; have := HJ3.out; first | omega | exact Nat.le_refl _⟩, ⟨by (with_reducible repeat (first | apply Kd.R_alloc | apply Kd.R_drewN | apply Kd.R_drew)); exact HO_7.out⟩, ⟨by repeat (first | (with_reducible first | exact HB.out | apply below_alloc | apply pw_below_drewN | apply below_drew1) | exact HB.out)⟩⟩
              · replace c15 := Bool.eq_false_iff.mpr c15
                subst c15
                have H1 : (abatislaw15_CspAdds.j2 kj3 a1 x7_1 (⟨#[116, 114, 101, 97, 116, 45, 97, 115, 45, 112, 117, 98, 108, 105, 99, 45, 97, 100, 100, 114, 101, 115, 115]⟩ : ByteArray)) = some r := by rw [if_neg (show ¬ (false = true) by decide)] at H; exact H
                clear H
                have H := H1
                clear H1
                have H' := Aside0.mk H
                clear H
                go_wp2
                go_meet
                case rel => exact ⟨_, ((⟨#[116, 114, 101, 97, 116, 45, 97, 115, 45, 112, 117, 98, 108, 105, 99, 45, 97, 100, 100, 114, 101, 115, 115]⟩ : ByteArray)), (by first | rfl | (simp; done) | (simp [*]; done) | (simp [bne]; done) | (simp [bne, *]; done)), H', ⟨by have := HK1.out; have := HJ3.out; first | omega | exact Nat.le_refl _⟩, ⟨by (with_reducible repeat (first | apply Kd.R_alloc | apply Kd.R_drewN | apply Kd.R_drew)); exact HO_7.out⟩, ⟨by repeat (first | (with_reducible first | exact HB.out | apply below_alloc | apply pw_below_drewN | apply below_drew1) | exact HB.out)⟩⟩
            case rest =>
              clear HC14
              try clear c1
              try clear p1
              try clear q1
              try clear hx1
              try clear p2
              try clear c4
              try clear c5
              try clear c5b0
              try clear c6
              try clear p6
              try clear c7
              try clear c7b0
              try clear c8
              try clear c8b0
              try clear c11
              try clear p12
              try clear q12
              try clear hx12
              try clear p13
              try clear q13
              try clear hx13
              try clear c15
              try clear hx129_0
              try clear hx129_1
              try clear hx131_0
              try clear hx131_1
              try clear p129
              try clear p131
              try clear p2
              try clear q129
              try clear q131
              obtain ⟨kq, x9_13, rfl, HA, HJ13, HO_7, HB⟩ := hcut
              cases kq with
              | zero => exact absurd HA.out (by simp [abatislaw15_CspAdds.j2])
              | succ kj13 =>
                have H := HA.out
                clear HA
                simp only [abatislaw15_CspAdds.j2] at H
                replace H := Option.bind_eq_some_iff.mp H
                obtain ⟨t136, A160, H⟩ := H
                replace H : ((abatisref01_Split.f kj13 t136 44).bind fun t137 => ((abatisref01_Join.f kj13 t137 (⟨#[]⟩ : ByteArray)).bind fun t140 => (if ([] : List (S25)).length + x7_1.length < 4398046511104 then ((some (([] : List (S25)) ++ x7_1 : List (S25))).bind fun y141 => (if t140.size + 2 ≤ 9223372036854775807 then (if (t140 ++ (⟨#[59, 9]⟩ : ByteArray)).size + x9_13.size ≤ 9223372036854775807 then (if ((t140 ++ (⟨#[59, 9]⟩ : ByteArray)) ++ x9_13).size + 2 ≤ 9223372036854775807 then (if y141.length < 4398046511104 then ((some (([] : List (S25)) ++ x7_1 : List (S25))).bind fun y147 => (if y147.length < 4398046511104 then ((csp_Public.f kj13 (y141 ++ [(⟨(⟨#[67, 79, 78, 84, 69, 78, 84, 45, 115, 101, 99, 117, 114, 105, 116, 121, 45, 80, 79, 76, 73, 67, 89]⟩ : ByteArray), ((t140 ++ (⟨#[59, 9]⟩ : ByteArray)) ++ x9_13) ++ (⟨#[32, 120]⟩ : ByteArray)⟩ : S25)])).bind fun t153 => (if t153 = true then ((csp_Public.f kj13 (y147 ++ [(⟨(⟨#[88]⟩ : ByteArray), x9_13⟩ : S25)])).bind fun t154 => ((csp_Public.f kj13 x7_1).bind fun t155 => (if (t154 == t155) = true then ((abatislaw15_lives.f kj13).bind fun t156 => (some t156)) else (some false)))) else (some false))) else (none))) else (none)) else (none)) else (none)) else (none))) else (none)))) = some r := H
                have A16 := Aside0.mk A160
                clear A160
                replace H := Option.bind_eq_some_iff.mp H
                obtain ⟨t137, A170, H⟩ := H
                replace H : ((abatisref01_Join.f kj13 t137 (⟨#[]⟩ : ByteArray)).bind fun t140 => (if ([] : List (S25)).length + x7_1.length < 4398046511104 then ((some (([] : List (S25)) ++ x7_1 : List (S25))).bind fun y141 => (if t140.size + 2 ≤ 9223372036854775807 then (if (t140 ++ (⟨#[59, 9]⟩ : ByteArray)).size + x9_13.size ≤ 9223372036854775807 then (if ((t140 ++ (⟨#[59, 9]⟩ : ByteArray)) ++ x9_13).size + 2 ≤ 9223372036854775807 then (if y141.length < 4398046511104 then ((some (([] : List (S25)) ++ x7_1 : List (S25))).bind fun y147 => (if y147.length < 4398046511104 then ((csp_Public.f kj13 (y141 ++ [(⟨(⟨#[67, 79, 78, 84, 69, 78, 84, 45, 115, 101, 99, 117, 114, 105, 116, 121, 45, 80, 79, 76, 73, 67, 89]⟩ : ByteArray), ((t140 ++ (⟨#[59, 9]⟩ : ByteArray)) ++ x9_13) ++ (⟨#[32, 120]⟩ : ByteArray)⟩ : S25)])).bind fun t153 => (if t153 = true then ((csp_Public.f kj13 (y147 ++ [(⟨(⟨#[88]⟩ : ByteArray), x9_13⟩ : S25)])).bind fun t154 => ((csp_Public.f kj13 x7_1).bind fun t155 => (if (t154 == t155) = true then ((abatislaw15_lives.f kj13).bind fun t156 => (some t156)) else (some false)))) else (some false))) else (none))) else (none)) else (none)) else (none)) else (none))) else (none))) = some r := H
                have A17 := Aside0.mk A170
                clear A170
                replace H := Option.bind_eq_some_iff.mp H
                obtain ⟨t140, A180, H⟩ := H
                replace H : (if ([] : List (S25)).length + x7_1.length < 4398046511104 then ((some (([] : List (S25)) ++ x7_1 : List (S25))).bind fun y141 => (if t140.size + 2 ≤ 9223372036854775807 then (if (t140 ++ (⟨#[59, 9]⟩ : ByteArray)).size + x9_13.size ≤ 9223372036854775807 then (if ((t140 ++ (⟨#[59, 9]⟩ : ByteArray)) ++ x9_13).size + 2 ≤ 9223372036854775807 then (if y141.length < 4398046511104 then ((some (([] : List (S25)) ++ x7_1 : List (S25))).bind fun y147 => (if y147.length < 4398046511104 then ((csp_Public.f kj13 (y141 ++ [(⟨(⟨#[67, 79, 78, 84, 69, 78, 84, 45, 115, 101, 99, 117, 114, 105, 116, 121, 45, 80, 79, 76, 73, 67, 89]⟩ : ByteArray), ((t140 ++ (⟨#[59, 9]⟩ : ByteArray)) ++ x9_13) ++ (⟨#[32, 120]⟩ : ByteArray)⟩ : S25)])).bind fun t153 => (if t153 = true then ((csp_Public.f kj13 (y147 ++ [(⟨(⟨#[88]⟩ : ByteArray), x9_13⟩ : S25)])).bind fun t154 => ((csp_Public.f kj13 x7_1).bind fun t155 => (if (t154 == t155) = true then ((abatislaw15_lives.f kj13).bind fun t156 => (some t156)) else (some false)))) else (some false))) else (none))) else (none)) else (none)) else (none)) else (none))) else (none)) = some r := H
                have A18 := Aside0.mk A180
                clear A180
                by_cases c19 : ([] : List (S25)).length + x7_1.length < 4398046511104
                · rw [if_pos c19] at H
                  have LMc19 := Aside0.mk c19
                  clear c19
                  obtain ⟨y141, hy141⟩ : ∃ y_ : List (S25), y_ = (([] : List (S25)) ++ x7_1) := ⟨_, rfl⟩
                  replace H : (if t140.size + 2 ≤ 9223372036854775807 then (if (t140 ++ (⟨#[59, 9]⟩ : ByteArray)).size + x9_13.size ≤ 9223372036854775807 then (if ((t140 ++ (⟨#[59, 9]⟩ : ByteArray)) ++ x9_13).size + 2 ≤ 9223372036854775807 then (if y141.length < 4398046511104 then ((some (([] : List (S25)) ++ x7_1 : List (S25))).bind fun y147 => (if y147.length < 4398046511104 then ((csp_Public.f kj13 (y141 ++ [(⟨(⟨#[67, 79, 78, 84, 69, 78, 84, 45, 115, 101, 99, 117, 114, 105, 116, 121, 45, 80, 79, 76, 73, 67, 89]⟩ : ByteArray), ((t140 ++ (⟨#[59, 9]⟩ : ByteArray)) ++ x9_13) ++ (⟨#[32, 120]⟩ : ByteArray)⟩ : S25)])).bind fun t153 => (if t153 = true then ((csp_Public.f kj13 (y147 ++ [(⟨(⟨#[88]⟩ : ByteArray), x9_13⟩ : S25)])).bind fun t154 => ((csp_Public.f kj13 x7_1).bind fun t155 => (if (t154 == t155) = true then ((abatislaw15_lives.f kj13).bind fun t156 => (some t156)) else (some false)))) else (some false))) else (none))) else (none)) else (none)) else (none)) else (none)) = some r := by first | (rw [hy141]; with_reducible exact H) | (have H2_ := (Option.bind_some _ _).symm.trans H; rw [hy141]; with_reducible exact H2_) | (have H2_ := (Option.bind_some _ _).symm.trans H; with_reducible exact H2_) | with_reducible exact H | (rw [hy141]; exact H) | exact H
                  have Ny141 := Aside0.mk hy141
                  clear hy141
                  by_cases c20 : t140.size + 2 ≤ 9223372036854775807
                  · rw [if_pos c20] at H
                    have c20b0 := eq_true c20
                    have c20b1 : decide (t140.size + 2 ≤ 9223372036854775807) = true := decide_eq_true c20
                    try have c20b2 : (9223372036854775807 < t140.size + 2) = False := eq_false (Nat.not_lt.2 c20)
                    by_cases c21 : (t140 ++ (⟨#[59, 9]⟩ : ByteArray)).size + x9_13.size ≤ 9223372036854775807
                    · rw [if_pos c21] at H
                      have c21b0 := eq_true c21
                      have c21b1 : decide ((t140 ++ (⟨#[59, 9]⟩ : ByteArray)).size + x9_13.size ≤ 9223372036854775807) = true := decide_eq_true c21
                      try have c21b2 : (9223372036854775807 < (t140 ++ (⟨#[59, 9]⟩ : ByteArray)).size + x9_13.size) = False := eq_false (Nat.not_lt.2 c21)
                      try (have c21b4 := c21b2; simp only [ByteArray.size_append, show (⟨#[59, 9]⟩ : ByteArray).size = 2 from rfl] at c21b4)
                      by_cases c22 : ((t140 ++ (⟨#[59, 9]⟩ : ByteArray)) ++ x9_13).size + 2 ≤ 9223372036854775807
                      · rw [if_pos c22] at H
                        have c22b0 := eq_true c22
                        have c22b1 : decide (((t140 ++ (⟨#[59, 9]⟩ : ByteArray)) ++ x9_13).size + 2 ≤ 9223372036854775807) = true := decide_eq_true c22
                        try have c22b2 : (9223372036854775807 < ((t140 ++ (⟨#[59, 9]⟩ : ByteArray)) ++ x9_13).size + 2) = False := eq_false (Nat.not_lt.2 c22)
                        try (have c22b4 := c22b2; simp only [ByteArray.size_append, show (⟨#[59, 9]⟩ : ByteArray).size = 2 from rfl] at c22b4)
                        by_cases c23 : y141.length < 4398046511104
                        · rw [if_pos c23] at H
                          have LMc23 := Aside0.mk c23
                          clear c23
                          obtain ⟨y144, hy144⟩ : ∃ y_ : List (S25), y_ = (y141 ++ [(⟨(⟨#[67, 79, 78, 84, 69, 78, 84, 45, 115, 101, 99, 117, 114, 105, 116, 121, 45, 80, 79, 76, 73, 67, 89]⟩ : ByteArray), ((t140 ++ (⟨#[59, 9]⟩ : ByteArray)) ++ x9_13) ++ (⟨#[32, 120]⟩ : ByteArray)⟩ : S25)]) := ⟨_, rfl⟩
                          replace H : ((some (([] : List (S25)) ++ x7_1 : List (S25))).bind fun y147 => (if y147.length < 4398046511104 then ((csp_Public.f kj13 y144).bind fun t153 => (if t153 = true then ((csp_Public.f kj13 (y147 ++ [(⟨(⟨#[88]⟩ : ByteArray), x9_13⟩ : S25)])).bind fun t154 => ((csp_Public.f kj13 x7_1).bind fun t155 => (if (t154 == t155) = true then ((abatislaw15_lives.f kj13).bind fun t156 => (some t156)) else (some false)))) else (some false))) else (none))) = some r := by first | (rw [hy144]; with_reducible exact H) | (have H2_ := (Option.bind_some _ _).symm.trans H; rw [hy144]; with_reducible exact H2_) | (have H2_ := (Option.bind_some _ _).symm.trans H; with_reducible exact H2_) | with_reducible exact H | (rw [hy144]; exact H) | exact H
                          have Ny144 := Aside0.mk hy144
                          clear hy144
                          obtain ⟨y147, hy147⟩ : ∃ y_ : List (S25), y_ = (([] : List (S25)) ++ x7_1) := ⟨_, rfl⟩
                          replace H : (if y147.length < 4398046511104 then ((csp_Public.f kj13 y144).bind fun t153 => (if t153 = true then ((csp_Public.f kj13 (y147 ++ [(⟨(⟨#[88]⟩ : ByteArray), x9_13⟩ : S25)])).bind fun t154 => ((csp_Public.f kj13 x7_1).bind fun t155 => (if (t154 == t155) = true then ((abatislaw15_lives.f kj13).bind fun t156 => (some t156)) else (some false)))) else (some false))) else (none)) = some r := by first | (rw [hy147]; with_reducible exact H) | (have H2_ := (Option.bind_some _ _).symm.trans H; rw [hy147]; with_reducible exact H2_) | (have H2_ := (Option.bind_some _ _).symm.trans H; with_reducible exact H2_) | with_reducible exact H | (rw [hy147]; exact H) | exact H
                          have Ny147 := Aside0.mk hy147
                          clear hy147
                          by_cases c24 : y147.length < 4398046511104
                          · rw [if_pos c24] at H
                            have LMc24 := Aside0.mk c24
                            clear c24
                            obtain ⟨y150, hy150⟩ : ∃ y_ : List (S25), y_ = (y147 ++ [(⟨(⟨#[88]⟩ : ByteArray), x9_13⟩ : S25)]) := ⟨_, rfl⟩
                            replace H : ((csp_Public.f kj13 y144).bind fun t153 => (if t153 = true then ((csp_Public.f kj13 y150).bind fun t154 => ((csp_Public.f kj13 x7_1).bind fun t155 => (if (t154 == t155) = true then ((abatislaw15_lives.f kj13).bind fun t156 => (some t156)) else (some false)))) else (some false))) = some r := by first | (rw [hy150]; with_reducible exact H) | (have H2_ := (Option.bind_some _ _).symm.trans H; rw [hy150]; with_reducible exact H2_) | (have H2_ := (Option.bind_some _ _).symm.trans H; with_reducible exact H2_) | with_reducible exact H | (rw [hy150]; exact H) | exact H
                            have Ny150 := Aside0.mk hy150
                            clear hy150
                            replace H := Option.bind_eq_some_iff.mp H
                            obtain ⟨t153, A250, H⟩ := H
                            replace H : (if t153 = true then ((csp_Public.f kj13 y150).bind fun t154 => ((csp_Public.f kj13 x7_1).bind fun t155 => (if (t154 == t155) = true then ((abatislaw15_lives.f kj13).bind fun t156 => (some t156)) else (some false)))) else (some false)) = some r := H
                            have A25 := Aside0.mk A250
                            clear A250
                            by_cases c26 : t153 = true
                            · subst c26
                              have H1 : ((csp_Public.f kj13 y150).bind fun t154 => ((csp_Public.f kj13 x7_1).bind fun t155 => (if (t154 == t155) = true then ((abatislaw15_lives.f kj13).bind fun t156 => (some t156)) else (some false)))) = some r := by rw [if_pos rfl] at H; exact H
                              clear H
                              have H := H1
                              clear H1
                              replace H := Option.bind_eq_some_iff.mp H
                              obtain ⟨t154, A270, H⟩ := H
                              replace H : ((csp_Public.f kj13 x7_1).bind fun t155 => (if (t154 == t155) = true then ((abatislaw15_lives.f kj13).bind fun t156 => (some t156)) else (some false))) = some r := H
                              have A27 := Aside0.mk A270
                              clear A270
                              replace H := Option.bind_eq_some_iff.mp H
                              obtain ⟨t155, A280, H⟩ := H
                              replace H : (if (t154 == t155) = true then ((abatislaw15_lives.f kj13).bind fun t156 => (some t156)) else (some false)) = some r := H
                              have A28 := Aside0.mk A280
                              clear A280
                              by_cases c29 : (t154 == t155) = true
                              · rw [if_pos c29] at H
                                have c29b0 : (t154 == t155) = true := c29
                                (try (have c29b1 : decide (t154 = t155) = true := by simpa using c29))
                                (try (have c29b2 : (t154 == t155) = true := by simpa using c29))
                                clear c29
                                replace H := Option.bind_eq_some_iff.mp H
                                obtain ⟨t156, A300, H⟩ := H
                                replace H : (some t156) = some r := H
                                have A30 := Aside0.mk A300
                                clear A300
                                obtain rfl := Option.some.inj H
                                go_wp2_with (first | ((with_reducible refine gate_callee (f := 8) rfl ?_); refine goesL_ (some 41) rfl rfl Tryd.func8 (by kernel_rfl) rfl #[.string a1, .int .i64 40] rfl (by (try simp only [List.map_toArray, List.map_cons, List.map_nil]); first | done | rfl | (simp only [List.length_drop, List.length_take]; rfl)) ?_; (with_reducible refine (abatisref01_Few.calls a1 40 t136 _ A16.out).mono ?_); rintro e w' ⟨rfl, ⟨nd, rfl⟩⟩; refine ⟨_, rfl, ?_⟩) | ((with_reducible refine gate_callee (f := 17) rfl ?_); refine goesL_ (some 42) rfl rfl Tryd.func17 (by kernel_rfl) rfl #[.string t136, .int .u8 44] rfl (by (try simp only [List.map_toArray, List.map_cons, List.map_nil]); first | done | rfl | (simp only [List.length_drop, List.length_take]; rfl)) ?_; (with_reducible refine (abatisref01_Split.calls kj13 t136 44 t137 _ A17.out).mono ?_); rintro e w31 ⟨v138, rfl, ho0, hb⟩; refine ⟨_, rfl, ?_⟩; have n0_ := Aside0.mk (Kd.R_below (by (with_reducible repeat (first | apply Kd.R_alloc | apply Kd.R_drewN | apply Kd.R_drew)); exact HO_7.out) hb); have n1_ := Aside0.mk (Kd.R_lower ho0 (below_size (by repeat (first | (with_reducible first | exact HB.out | apply below_alloc | apply pw_below_drewN | apply below_drew1) | exact HB.out)))); have n2_ := Aside0.mk (below_step (by repeat (first | (with_reducible first | exact HB.out | apply below_alloc | apply pw_below_drewN | apply below_drew1) | exact HB.out)) hb); clear HO_7; clear HB; have HO_7 := n0_; have HO139 := n1_; have HB := n2_; clear n0_ n1_ n2_; (try clear hb); (try clear hb2); (try clear hk); (try clear hi); (try clear ho0); obtain ⟨Ao32, co32, eo32⟩ := Kd.R_slice HO139.out; subst eo32) | ((with_reducible refine gate_callee (f := 16) rfl ?_); refine goesL_ (some 43) rfl rfl Tryd.func16 (by kernel_rfl) rfl #[.slice Ao32 t137.length co32, .string (⟨#[]⟩ : ByteArray)] rfl (by (try simp only [List.map_toArray, List.map_cons, List.map_nil]); first | done | rfl | (simp only [List.length_drop, List.length_take]; rfl)) ?_; (with_reducible refine (abatisref01_Join.calls kj13 _ _ t137 (⟨#[]⟩ : ByteArray) t140 _ ?side1 ?side2 A18.out).mono ?_); (case side1 => repeat (first | exact (Kd.R_reads' HO139.out).2.2 | (with_reducible refine Kd.C_alloc ?_ _) | (with_reducible refine Kd.C_drewN ?_ _) | (with_reducible refine Kd.C_drew ?_))); (case side2 => exact (Kd.R_reads' HO139.out).2.1); rintro e w' ⟨rfl, ⟨nd, rfl⟩⟩; refine ⟨_, rfl, ?_⟩; obtain ⟨Ao34, co34, eo34⟩ := Kd.R_slice HO_7.out; subst eo34) | ((with_reducible refine gate_builtin (b := .append) (xs := #[.tmp 44, .tmp 45]) rfl ?_); at_builtin; refine Kd.R_append_rows k25 (w0 := w) w.heap.size rfl (.tmp 44) (.tmp 45) 22 25 (.agg #[(.string ⟨#[]⟩), (.string ⟨#[]⟩)]) 32 rfl Tryd.underlying22 info25 rfl (by decide) (by omega) (.slice none 0 0) ([] : List (S25)) x7_1 _ _ _ (fun k_ => some k_ ≠ (.slice Ao34 x7_1.length co34 : Value).ownBlock) (fun _ => False) rfl rfl ?aO ?aR (fun _ _ h => h) (fun _ h => h.elim) ?aF ?aB ?aS ?aL ?_; (case aR => repeat (first | exact (Kd.R_reads' HO_7.out).2.2 | (with_reducible refine Kd.C_alloc ?_ _) | (with_reducible refine Kd.C_drewN ?_ _) | (with_reducible refine Kd.C_drew ?_))); (case aB => exact (by repeat (first | (with_reducible first | exact HB.out | apply below_alloc | apply pw_below_drewN | apply below_drew1) | exact HB.out))); (case aF => exact (fun k_ hk => Kd.fresh' (Kd.R_lt (by (with_reducible repeat (first | apply Kd.R_alloc | apply Kd.R_drewN | apply Kd.R_drew)); exact HO_7.out)) k_ hk)); (case aO => exact ((Kd.R_nil _ _ _ _ (fun k_ => some k_ ≠ (.slice Ao34 x7_1.length co34 : Value).ownBlock)))); (case aS => exact (below_size (by repeat (first | (with_reducible first | exact HB.out | apply below_alloc | apply pw_below_drewN | apply below_drew1) | exact HB.out)))); (case aL => have := LMc19.out; omega); intro v142 w33 ho hb hg hat; rw [← Ny141.out] at ho; have n0_ := Aside0.mk (Kd.R_after (Kd.R_apart_nil (by (with_reducible repeat (first | apply Kd.R_alloc | apply Kd.R_drewN | apply Kd.R_drew)); exact HO_7.out)) hg hat); have n1_ := Aside0.mk (Kd.R_grown (by (with_reducible repeat (first | apply Kd.R_alloc | apply Kd.R_drewN | apply Kd.R_drew)); exact HO139.out) hg (fun _ _ => by simp [Value.ownBlock])); have n2_ := Aside0.mk (hb); have n3_ := Aside0.mk (ho); clear HO_7; clear HO139; clear HB; have HO_7 := n0_; have HO139 := n1_; have HB := n2_; have HO143 := n3_; clear n0_ n1_ n2_ n3_; clear ho hb hg hat) | ((with_reducible refine gate_builtin (b := .append) (xs := #[.tmp 47, .tmp 54]) rfl ?_); at_builtin; refine Kd.R_append k25 (w0 := w) w.heap.size rfl (.tmp 47) (.tmp 54) 22 25 (.agg #[(.string ⟨#[]⟩), (.string ⟨#[]⟩)]) 32 rfl Tryd.underlying22 info25 rfl (by decide) (by omega) v142 y141 (⟨(⟨#[67, 79, 78, 84, 69, 78, 84, 45, 115, 101, 99, 117, 114, 105, 116, 121, 45, 80, 79, 76, 73, 67, 89]⟩ : ByteArray), ((t140 ++ (⟨#[59, 9]⟩ : ByteArray)) ++ x9_13) ++ (⟨#[32, 120]⟩ : ByteArray)⟩ : S25) [.string (⟨#[67, 79, 78, 84, 69, 78, 84, 45, 115, 101, 99, 117, 114, 105, 116, 121, 45, 80, 79, 76, 73, 67, 89]⟩ : ByteArray), .string (((t140 ++ (⟨#[59, 9]⟩ : ByteArray)) ++ x9_13) ++ (⟨#[32, 120]⟩ : ByteArray))] (fun k_ => some k_ ≠ (.slice Ao34 x7_1.length co34 : Value).ownBlock) (fun _ => False) rfl rfl ?aP (fun _ hk => hk.elim) ?aF ?aO ?aB ?aS ?aL ?_; (case aP => exact k25_mkM _ _ _ (⟨(⟨#[67, 79, 78, 84, 69, 78, 84, 45, 115, 101, 99, 117, 114, 105, 116, 121, 45, 80, 79, 76, 73, 67, 89]⟩ : ByteArray), ((t140 ++ (⟨#[59, 9]⟩ : ByteArray)) ++ x9_13) ++ (⟨#[32, 120]⟩ : ByteArray)⟩ : S25)); (case aB => exact (by repeat (first | (with_reducible first | exact HB.out | apply below_alloc | apply pw_below_drewN | apply below_drew1) | exact HB.out))); (case aF => exact (fun k_ hk => Kd.fresh' (Kd.R_lt (by (with_reducible repeat (first | apply Kd.R_alloc | apply Kd.R_drewN | apply Kd.R_drew)); exact HO_7.out)) k_ hk)); (case aO => exact (by (with_reducible repeat (first | apply Kd.R_alloc | apply Kd.R_drewN | apply Kd.R_drew)); exact HO143.out)); (case aS => exact (below_size (by repeat (first | (with_reducible first | exact HB.out | apply below_alloc | apply pw_below_drewN | apply below_drew1) | exact HB.out)))); (case aL => have := LMc23.out; omega); intro v145 w35 ho hb hg hat; rw [← Ny144.out] at ho; have n0_ := Aside0.mk (Kd.R_after (ok := (fun _ => True)) (by (with_reducible repeat (first | apply Kd.R_alloc | apply Kd.R_drewN | apply Kd.R_drew)); exact HO_7.out) hg hat); have n1_ := Aside0.mk (Kd.R_over' (by (with_reducible repeat (first | apply Kd.R_alloc | apply Kd.R_drewN | apply Kd.R_drew)); exact HO139.out) (Kd.R_typed (by (with_reducible repeat (first | apply Kd.R_alloc | apply Kd.R_drewN | apply Kd.R_drew)); exact HO143.out)) (by decide) hg); have n2_ := Aside0.mk (hb); have n3_ := Aside0.mk (ho); clear HO_7; clear HO139; clear HB; clear HO143; have HO_7 := n0_; have HO139 := n1_; have HB := n2_; have HO146 := n3_; clear n0_ n1_ n2_ n3_; clear ho hb hg hat) | ((with_reducible refine gate_builtin (b := .append) (xs := #[.tmp 56, .tmp 57]) rfl ?_); at_builtin; refine Kd.R_append_rows k25 (w0 := w) w.heap.size rfl (.tmp 56) (.tmp 57) 22 25 (.agg #[(.string ⟨#[]⟩), (.string ⟨#[]⟩)]) 32 rfl Tryd.underlying22 info25 rfl (by decide) (by omega) (.slice none 0 0) ([] : List (S25)) x7_1 _ _ _ (fun k_ => some k_ ≠ (.slice Ao34 x7_1.length co34 : Value).ownBlock ∧ some k_ ≠ (v145 : Value).ownBlock) (fun _ => False) rfl rfl ?aO ?aR (fun _ _ h => h) (fun _ h => h.elim) ?aF ?aB ?aS ?aL ?_; (case aR => repeat (first | exact (Kd.R_reads' HO_7.out).2.2 | (with_reducible refine Kd.C_alloc ?_ _) | (with_reducible refine Kd.C_drewN ?_ _) | (with_reducible refine Kd.C_drew ?_))); (case aB => exact (by repeat (first | (with_reducible first | exact HB.out | apply below_alloc | apply pw_below_drewN | apply below_drew1) | exact HB.out))); (case aF => exact (fun k_ hk => ⟨Kd.fresh' (Kd.R_lt (by (with_reducible repeat (first | apply Kd.R_alloc | apply Kd.R_drewN | apply Kd.R_drew)); exact HO_7.out)) k_ hk, Kd.fresh' (Kd.R_lt (by (with_reducible repeat (first | apply Kd.R_alloc | apply Kd.R_drewN | apply Kd.R_drew)); exact HO146.out)) k_ hk⟩)); (case aO => exact ((Kd.R_nil _ _ _ _ (fun k_ => some k_ ≠ (.slice Ao34 x7_1.length co34 : Value).ownBlock ∧ some k_ ≠ (v145 : Value).ownBlock)))); (case aS => exact (below_size (by repeat (first | (with_reducible first | exact HB.out | apply below_alloc | apply pw_below_drewN | apply below_drew1) | exact HB.out)))); (case aL => have := LMc19.out; omega); intro v148 w36 ho hb hg hat; rw [← Ny147.out] at ho; have n0_ := Aside0.mk (Kd.R_after (Kd.R_apart_nil (by (with_reducible repeat (first | apply Kd.R_alloc | apply Kd.R_drewN | apply Kd.R_drew)); exact HO_7.out)) hg hat); have n1_ := Aside0.mk (Kd.R_grown (by (with_reducible repeat (first | apply Kd.R_alloc | apply Kd.R_drewN | apply Kd.R_drew)); exact HO139.out) hg (fun _ _ => by simp [Value.ownBlock])); have n2_ := Aside0.mk (Kd.R_after (Kd.R_apart_nil (by (with_reducible repeat (first | apply Kd.R_alloc | apply Kd.R_drewN | apply Kd.R_drew)); exact HO146.out)) hg hat); have n3_ := Aside0.mk (hb); have n4_ := Aside0.mk (ho); clear HO_7; clear HO139; clear HO146; clear HB; have HO_7 := n0_; have HO139 := n1_; have HO146 := n2_; have HB := n3_; have HO149 := n4_; clear n0_ n1_ n2_ n3_ n4_; clear ho hb hg hat) | ((with_reducible refine gate_builtin (b := .append) (xs := #[.tmp 59, .tmp 62]) rfl ?_); at_builtin; refine Kd.R_append k25 (w0 := w) w.heap.size rfl (.tmp 59) (.tmp 62) 22 25 (.agg #[(.string ⟨#[]⟩), (.string ⟨#[]⟩)]) 32 rfl Tryd.underlying22 info25 rfl (by decide) (by omega) v148 y147 (⟨(⟨#[88]⟩ : ByteArray), x9_13⟩ : S25) [.string (⟨#[88]⟩ : ByteArray), .string x9_13] (fun k_ => some k_ ≠ (.slice Ao34 x7_1.length co34 : Value).ownBlock ∧ some k_ ≠ (v145 : Value).ownBlock) (fun _ => False) rfl rfl ?aP (fun _ hk => hk.elim) ?aF ?aO ?aB ?aS ?aL ?_; (case aP => exact k25_mkM _ _ _ (⟨(⟨#[88]⟩ : ByteArray), x9_13⟩ : S25)); (case aB => exact (by repeat (first | (with_reducible first | exact HB.out | apply below_alloc | apply pw_below_drewN | apply below_drew1) | exact HB.out))); (case aF => exact (fun k_ hk => ⟨Kd.fresh' (Kd.R_lt (by (with_reducible repeat (first | apply Kd.R_alloc | apply Kd.R_drewN | apply Kd.R_drew)); exact HO_7.out)) k_ hk, Kd.fresh' (Kd.R_lt (by (with_reducible repeat (first | apply Kd.R_alloc | apply Kd.R_drewN | apply Kd.R_drew)); exact HO146.out)) k_ hk⟩)); (case aO => exact (by (with_reducible repeat (first | apply Kd.R_alloc | apply Kd.R_drewN | apply Kd.R_drew)); exact HO149.out)); (case aS => exact (below_size (by repeat (first | (with_reducible first | exact HB.out | apply below_alloc | apply pw_below_drewN | apply below_drew1) | exact HB.out)))); (case aL => have := LMc24.out; omega); intro v151 w37 ho hb hg hat; rw [← Ny150.out] at ho; have n0_ := Aside0.mk (Kd.R_after (ok := (fun k_ => some k_ ≠ (v145 : Value).ownBlock)) (by (with_reducible repeat (first | apply Kd.R_alloc | apply Kd.R_drewN | apply Kd.R_drew)); exact Kd.R_mono HO_7.out (fun _ hk => ⟨hk.1.2, hk.2⟩)) hg hat); have n1_ := Aside0.mk (Kd.R_over' (by (with_reducible repeat (first | apply Kd.R_alloc | apply Kd.R_drewN | apply Kd.R_drew)); exact HO139.out) (Kd.R_typed (by (with_reducible repeat (first | apply Kd.R_alloc | apply Kd.R_drewN | apply Kd.R_drew)); exact HO149.out)) (by decide) hg); have n2_ := Aside0.mk (Kd.R_after (ok := (fun k_ => some k_ ≠ (.slice Ao34 x7_1.length co34 : Value).ownBlock)) (by (with_reducible repeat (first | apply Kd.R_alloc | apply Kd.R_drewN | apply Kd.R_drew)); exact HO146.out) hg hat); have n3_ := Aside0.mk (hb); have n4_ := Aside0.mk (ho); clear HO_7; clear HO139; clear HO146; clear HB; clear HO149; have HO_7 := n0_; have HO139 := n1_; have HO146 := n2_; have HB := n3_; have HO152 := n4_; clear n0_ n1_ n2_ n3_ n4_; clear ho hb hg hat; obtain ⟨Ao38, co38, eo38⟩ := Kd.R_slice HO146.out; subst eo38) | ((with_reducible refine gate_callee (f := 13) rfl ?_); refine goesL_ (some 65) rfl rfl Tryd.func13 (by kernel_rfl) rfl #[.slice Ao38 y144.length co38] rfl (by (try simp only [List.map_toArray, List.map_cons, List.map_nil]); first | done | rfl | (simp only [List.length_drop, List.length_take]; rfl)) ?_; (with_reducible refine (csp_Public.calls kj13 _ _ y144 true _ ?side1 ?side2 A25.out).mono ?_); (case side1 => repeat (first | exact (Kd.R_reads' HO146.out).2.2 | (with_reducible refine Kd.C_alloc ?_ _) | (with_reducible refine Kd.C_drewN ?_ _) | (with_reducible refine Kd.C_drew ?_))); (case side2 => exact (Kd.R_reads' HO146.out).2.1); rintro e w39 ⟨rfl, hb⟩; refine ⟨_, rfl, ?_⟩; have n0_ := Aside0.mk (Kd.R_below (by (with_reducible repeat (first | apply Kd.R_alloc | apply Kd.R_drewN | apply Kd.R_drew)); exact HO_7.out) hb); have n1_ := Aside0.mk (Kd.R_below (by (with_reducible repeat (first | apply Kd.R_alloc | apply Kd.R_drewN | apply Kd.R_drew)); exact HO139.out) hb); have n2_ := Aside0.mk (Kd.R_below (by (with_reducible repeat (first | apply Kd.R_alloc | apply Kd.R_drewN | apply Kd.R_drew)); exact HO146.out) hb); have n3_ := Aside0.mk (Kd.R_below (by (with_reducible repeat (first | apply Kd.R_alloc | apply Kd.R_drewN | apply Kd.R_drew)); exact HO152.out) hb); have n4_ := Aside0.mk (below_step (by repeat (first | (with_reducible first | exact HB.out | apply below_alloc | apply pw_below_drewN | apply below_drew1) | exact HB.out)) hb); clear HO_7; clear HO139; clear HO146; clear HO152; clear HB; have HO_7 := n0_; have HO139 := n1_; have HO146 := n2_; have HO152 := n3_; have HB := n4_; clear n0_ n1_ n2_ n3_ n4_; (try clear hb); (try clear hb2); (try clear hk); (try clear hi); obtain ⟨Ao40, co40, eo40⟩ := Kd.R_slice HO152.out; subst eo40) | (go_at_call 13; (with_reducible refine (csp_Public.calls kj13 _ _ y150 t154 _ ?side1 ?side2 A27.out).mono ?_); (case side1 => repeat (first | exact (Kd.R_reads' HO152.out).2.2 | (with_reducible refine Kd.C_alloc ?_ _) | (with_reducible refine Kd.C_drewN ?_ _) | (with_reducible refine Kd.C_drew ?_))); (case side2 => exact (Kd.R_reads' HO152.out).2.1); rintro e w41 ⟨rfl, hb⟩; have n0_ := Aside0.mk (Kd.R_below (by (with_reducible repeat (first | apply Kd.R_alloc | apply Kd.R_drewN | apply Kd.R_drew)); exact HO_7.out) hb); have n1_ := Aside0.mk (Kd.R_below (by (with_reducible repeat (first | apply Kd.R_alloc | apply Kd.R_drewN | apply Kd.R_drew)); exact HO139.out) hb); have n2_ := Aside0.mk (Kd.R_below (by (with_reducible repeat (first | apply Kd.R_alloc | apply Kd.R_drewN | apply Kd.R_drew)); exact HO146.out) hb); have n3_ := Aside0.mk (Kd.R_below (by (with_reducible repeat (first | apply Kd.R_alloc | apply Kd.R_drewN | apply Kd.R_drew)); exact HO152.out) hb); have n4_ := Aside0.mk (below_step (by repeat (first | (with_reducible first | exact HB.out | apply below_alloc | apply pw_below_drewN | apply below_drew1) | exact HB.out)) hb); clear HO_7; clear HO139; clear HO146; clear HO152; clear HB; have HO_7 := n0_; have HO139 := n1_; have HO146 := n2_; have HO152 := n3_; have HB := n4_; clear n0_ n1_ n2_ n3_ n4_; (try clear hb); (try clear hb2); (try clear hk); (try clear hi)) | (go_at_call 13; (with_reducible refine (csp_Public.calls kj13 _ _ x7_1 t155 _ ?side1 ?side2 A28.out).mono ?_); (case side1 => repeat (first | exact (Kd.R_reads' HO_7.out).2.2 | (with_reducible refine Kd.C_alloc ?_ _) | (with_reducible refine Kd.C_drewN ?_ _) | (with_reducible refine Kd.C_drew ?_))); (case side2 => exact (Kd.R_reads' HO_7.out).2.1); rintro e w42 ⟨rfl, hb⟩; have n0_ := Aside0.mk (Kd.R_below (by (with_reducible repeat (first | apply Kd.R_alloc | apply Kd.R_drewN | apply Kd.R_drew)); exact HO_7.out) hb); have n1_ := Aside0.mk (Kd.R_below (by (with_reducible repeat (first | apply Kd.R_alloc | apply Kd.R_drewN | apply Kd.R_drew)); exact HO139.out) hb); have n2_ := Aside0.mk (Kd.R_below (by (with_reducible repeat (first | apply Kd.R_alloc | apply Kd.R_drewN | apply Kd.R_drew)); exact HO146.out) hb); have n3_ := Aside0.mk (Kd.R_below (by (with_reducible repeat (first | apply Kd.R_alloc | apply Kd.R_drewN | apply Kd.R_drew)); exact HO152.out) hb); have n4_ := Aside0.mk (below_step (by repeat (first | (with_reducible first | exact HB.out | apply below_alloc | apply pw_below_drewN | apply below_drew1) | exact HB.out)) hb); clear HO_7; clear HO139; clear HO146; clear HO152; clear HB; have HO_7 := n0_; have HO139 := n1_; have HO146 := n2_; have HO152 := n3_; have HB := n4_; clear n0_ n1_ n2_ n3_ n4_; (try clear hb); (try clear hb2); (try clear hk); (try clear hi)) | (go_at_call 15; (with_reducible refine (abatislaw15_lives.calls kj13  t156 _ A30.out).mono ?_); rintro e w43 ⟨rfl, hb⟩; have n0_ := Aside0.mk (Kd.R_below (by (with_reducible repeat (first | apply Kd.R_alloc | apply Kd.R_drewN | apply Kd.R_drew)); exact HO_7.out) hb); have n1_ := Aside0.mk (Kd.R_below (by (with_reducible repeat (first | apply Kd.R_alloc | apply Kd.R_drewN | apply Kd.R_drew)); exact HO139.out) hb); have n2_ := Aside0.mk (Kd.R_below (by (with_reducible repeat (first | apply Kd.R_alloc | apply Kd.R_drewN | apply Kd.R_drew)); exact HO146.out) hb); have n3_ := Aside0.mk (Kd.R_below (by (with_reducible repeat (first | apply Kd.R_alloc | apply Kd.R_drewN | apply Kd.R_drew)); exact HO152.out) hb); have n4_ := Aside0.mk (below_step (by repeat (first | (with_reducible first | exact HB.out | apply below_alloc | apply pw_below_drewN | apply below_drew1) | exact HB.out)) hb); clear HO_7; clear HO139; clear HO146; clear HO152; clear HB; have HO_7 := n0_; have HO139 := n1_; have HO146 := n2_; have HO152 := n3_; have HB := n4_; clear n0_ n1_ n2_ n3_ n4_; (try clear hb); (try clear hb2); (try clear hk); (try clear hi)))
                                go_ret
                                exact ⟨by first | rfl | (simp [errW_none, errW_some] <;> rfl) | (simp [*, errW_none, errW_some] <;> rfl), by repeat (first | (with_reducible first | exact HB.out | apply below_alloc | apply pw_below_drewN | apply below_drew1) | exact HB.out)⟩
                              · rw [if_neg c29] at H
                                have c29b0 : (t154 == t155) = false := by simpa using c29
                                (try (have c29b1 : decide (t154 = t155) = false := by simpa using c29))
                                (try (have c29b2 : (t154 == t155) = false := by simpa using c29))
                                (try (have c29b3 : ¬ (t154 = t155) := by simpa using c29))
                                clear c29
                                obtain rfl := Option.some.inj H
                                go_wp2_with (first | ((with_reducible refine gate_callee (f := 8) rfl ?_); refine goesL_ (some 41) rfl rfl Tryd.func8 (by kernel_rfl) rfl #[.string a1, .int .i64 40] rfl (by (try simp only [List.map_toArray, List.map_cons, List.map_nil]); first | done | rfl | (simp only [List.length_drop, List.length_take]; rfl)) ?_; (with_reducible refine (abatisref01_Few.calls a1 40 t136 _ A16.out).mono ?_); rintro e w' ⟨rfl, ⟨nd, rfl⟩⟩; refine ⟨_, rfl, ?_⟩) | ((with_reducible refine gate_callee (f := 17) rfl ?_); refine goesL_ (some 42) rfl rfl Tryd.func17 (by kernel_rfl) rfl #[.string t136, .int .u8 44] rfl (by (try simp only [List.map_toArray, List.map_cons, List.map_nil]); first | done | rfl | (simp only [List.length_drop, List.length_take]; rfl)) ?_; (with_reducible refine (abatisref01_Split.calls kj13 t136 44 t137 _ A17.out).mono ?_); rintro e w44 ⟨v138, rfl, ho0, hb⟩; refine ⟨_, rfl, ?_⟩; have n0_ := Aside0.mk (Kd.R_below (by (with_reducible repeat (first | apply Kd.R_alloc | apply Kd.R_drewN | apply Kd.R_drew)); exact HO_7.out) hb); have n1_ := Aside0.mk (Kd.R_lower ho0 (below_size (by repeat (first | (with_reducible first | exact HB.out | apply below_alloc | apply pw_below_drewN | apply below_drew1) | exact HB.out)))); have n2_ := Aside0.mk (below_step (by repeat (first | (with_reducible first | exact HB.out | apply below_alloc | apply pw_below_drewN | apply below_drew1) | exact HB.out)) hb); clear HO_7; clear HB; have HO_7 := n0_; have HO139 := n1_; have HB := n2_; clear n0_ n1_ n2_; (try clear hb); (try clear hb2); (try clear hk); (try clear hi); (try clear ho0); obtain ⟨Ao45, co45, eo45⟩ := Kd.R_slice HO139.out; subst eo45) | ((with_reducible refine gate_callee (f := 16) rfl ?_); refine goesL_ (some 43) rfl rfl Tryd.func16 (by kernel_rfl) rfl #[.slice Ao45 t137.length co45, .string (⟨#[]⟩ : ByteArray)] rfl (by (try simp only [List.map_toArray, List.map_cons, List.map_nil]); first | done | rfl | (simp only [List.length_drop, List.length_take]; rfl)) ?_; (with_reducible refine (abatisref01_Join.calls kj13 _ _ t137 (⟨#[]⟩ : ByteArray) t140 _ ?side1 ?side2 A18.out).mono ?_); (case side1 => repeat (first | exact (Kd.R_reads' HO139.out).2.2 | (with_reducible refine Kd.C_alloc ?_ _) | (with_reducible refine Kd.C_drewN ?_ _) | (with_reducible refine Kd.C_drew ?_))); (case side2 => exact (Kd.R_reads' HO139.out).2.1); rintro e w' ⟨rfl, ⟨nd, rfl⟩⟩; refine ⟨_, rfl, ?_⟩; obtain ⟨Ao47, co47, eo47⟩ := Kd.R_slice HO_7.out; subst eo47) | ((with_reducible refine gate_builtin (b := .append) (xs := #[.tmp 44, .tmp 45]) rfl ?_); at_builtin; refine Kd.R_append_rows k25 (w0 := w) w.heap.size rfl (.tmp 44) (.tmp 45) 22 25 (.agg #[(.string ⟨#[]⟩), (.string ⟨#[]⟩)]) 32 rfl Tryd.underlying22 info25 rfl (by decide) (by omega) (.slice none 0 0) ([] : List (S25)) x7_1 _ _ _ (fun k_ => some k_ ≠ (.slice Ao47 x7_1.length co47 : Value).ownBlock) (fun _ => False) rfl rfl ?aO ?aR (fun _ _ h => h) (fun _ h => h.elim) ?aF ?aB ?aS ?aL ?_; (case aR => repeat (first | exact (Kd.R_reads' HO_7.out).2.2 | (with_reducible refine Kd.C_alloc ?_ _) | (with_reducible refine Kd.C_drewN ?_ _) | (with_reducible refine Kd.C_drew ?_))); (case aB => exact (by repeat (first | (with_reducible first | exact HB.out | apply below_alloc | apply pw_below_drewN | apply below_drew1) | exact HB.out))); (case aF => exact (fun k_ hk => Kd.fresh' (Kd.R_lt (by (with_reducible repeat (first | apply Kd.R_alloc | apply Kd.R_drewN | apply Kd.R_drew)); exact HO_7.out)) k_ hk)); (case aO => exact ((Kd.R_nil _ _ _ _ (fun k_ => some k_ ≠ (.slice Ao47 x7_1.length co47 : Value).ownBlock)))); (case aS => exact (below_size (by repeat (first | (with_reducible first | exact HB.out | apply below_alloc | apply pw_below_drewN | apply below_drew1) | exact HB.out)))); (case aL => have := LMc19.out; omega); intro v142 w46 ho hb hg hat; rw [← Ny141.out] at ho; have n0_ := Aside0.mk (Kd.R_after (Kd.R_apart_nil (by (with_reducible repeat (first | apply Kd.R_alloc | apply Kd.R_drewN | apply Kd.R_drew)); exact HO_7.out)) hg hat); have n1_ := Aside0.mk (Kd.R_grown (by (with_reducible repeat (first | apply Kd.R_alloc | apply Kd.R_drewN | apply Kd.R_drew)); exact HO139.out) hg (fun _ _ => by simp [Value.ownBlock])); have n2_ := Aside0.mk (hb); have n3_ := Aside0.mk (ho); clear HO_7; clear HO139; clear HB; have HO_7 := n0_; have HO139 := n1_; have HB := n2_; have HO143 := n3_; clear n0_ n1_ n2_ n3_; clear ho hb hg hat) | ((with_reducible refine gate_builtin (b := .append) (xs := #[.tmp 47, .tmp 54]) rfl ?_); at_builtin; refine Kd.R_append k25 (w0 := w) w.heap.size rfl (.tmp 47) (.tmp 54) 22 25 (.agg #[(.string ⟨#[]⟩), (.string ⟨#[]⟩)]) 32 rfl Tryd.underlying22 info25 rfl (by decide) (by omega) v142 y141 (⟨(⟨#[67, 79, 78, 84, 69, 78, 84, 45, 115, 101, 99, 117, 114, 105, 116, 121, 45, 80, 79, 76, 73, 67, 89]⟩ : ByteArray), ((t140 ++ (⟨#[59, 9]⟩ : ByteArray)) ++ x9_13) ++ (⟨#[32, 120]⟩ : ByteArray)⟩ : S25) [.string (⟨#[67, 79, 78, 84, 69, 78, 84, 45, 115, 101, 99, 117, 114, 105, 116, 121, 45, 80, 79, 76, 73, 67, 89]⟩ : ByteArray), .string (((t140 ++ (⟨#[59, 9]⟩ : ByteArray)) ++ x9_13) ++ (⟨#[32, 120]⟩ : ByteArray))] (fun k_ => some k_ ≠ (.slice Ao47 x7_1.length co47 : Value).ownBlock) (fun _ => False) rfl rfl ?aP (fun _ hk => hk.elim) ?aF ?aO ?aB ?aS ?aL ?_; (case aP => exact k25_mkM _ _ _ (⟨(⟨#[67, 79, 78, 84, 69, 78, 84, 45, 115, 101, 99, 117, 114, 105, 116, 121, 45, 80, 79, 76, 73, 67, 89]⟩ : ByteArray), ((t140 ++ (⟨#[59, 9]⟩ : ByteArray)) ++ x9_13) ++ (⟨#[32, 120]⟩ : ByteArray)⟩ : S25)); (case aB => exact (by repeat (first | (with_reducible first | exact HB.out | apply below_alloc | apply pw_below_drewN | apply below_drew1) | exact HB.out))); (case aF => exact (fun k_ hk => Kd.fresh' (Kd.R_lt (by (with_reducible repeat (first | apply Kd.R_alloc | apply Kd.R_drewN | apply Kd.R_drew)); exact HO_7.out)) k_ hk)); (case aO => exact (by (with_reducible repeat (first | apply Kd.R_alloc | apply Kd.R_drewN | apply Kd.R_drew)); exact HO143.out)); (case aS => exact (below_size (by repeat (first | (with_reducible first | exact HB.out | apply below_alloc | apply pw_below_drewN | apply below_drew1) | exact HB.out)))); (case aL => have := LMc23.out; omega); intro v145 w48 ho hb hg hat; rw [← Ny144.out] at ho; have n0_ := Aside0.mk (Kd.R_after (ok := (fun _ => True)) (by (with_reducible repeat (first | apply Kd.R_alloc | apply Kd.R_drewN | apply Kd.R_drew)); exact HO_7.out) hg hat); have n1_ := Aside0.mk (Kd.R_over' (by (with_reducible repeat (first | apply Kd.R_alloc | apply Kd.R_drewN | apply Kd.R_drew)); exact HO139.out) (Kd.R_typed (by (with_reducible repeat (first | apply Kd.R_alloc | apply Kd.R_drewN | apply Kd.R_drew)); exact HO143.out)) (by decide) hg); have n2_ := Aside0.mk (hb); have n3_ := Aside0.mk (ho); clear HO_7; clear HO139; clear HB; clear HO143; have HO_7 := n0_; have HO139 := n1_; have HB := n2_; have HO146 := n3_; clear n0_ n1_ n2_ n3_; clear ho hb hg hat) | ((with_reducible refine gate_builtin (b := .append) (xs := #[.tmp 56, .tmp 57]) rfl ?_); at_builtin; refine Kd.R_append_rows k25 (w0 := w) w.heap.size rfl (.tmp 56) (.tmp 57) 22 25 (.agg #[(.string ⟨#[]⟩), (.string ⟨#[]⟩)]) 32 rfl Tryd.underlying22 info25 rfl (by decide) (by omega) (.slice none 0 0) ([] : List (S25)) x7_1 _ _ _ (fun k_ => some k_ ≠ (.slice Ao47 x7_1.length co47 : Value).ownBlock ∧ some k_ ≠ (v145 : Value).ownBlock) (fun _ => False) rfl rfl ?aO ?aR (fun _ _ h => h) (fun _ h => h.elim) ?aF ?aB ?aS ?aL ?_; (case aR => repeat (first | exact (Kd.R_reads' HO_7.out).2.2 | (with_reducible refine Kd.C_alloc ?_ _) | (with_reducible refine Kd.C_drewN ?_ _) | (with_reducible refine Kd.C_drew ?_))); (case aB => exact (by repeat (first | (with_reducible first | exact HB.out | apply below_alloc | apply pw_below_drewN | apply below_drew1) | exact HB.out))); (case aF => exact (fun k_ hk => ⟨Kd.fresh' (Kd.R_lt (by (with_reducible repeat (first | apply Kd.R_alloc | apply Kd.R_drewN | apply Kd.R_drew)); exact HO_7.out)) k_ hk, Kd.fresh' (Kd.R_lt (by (with_reducible repeat (first | apply Kd.R_alloc | apply Kd.R_drewN | apply Kd.R_drew)); exact HO146.out)) k_ hk⟩)); (case aO => exact ((Kd.R_nil _ _ _ _ (fun k_ => some k_ ≠ (.slice Ao47 x7_1.length co47 : Value).ownBlock ∧ some k_ ≠ (v145 : Value).ownBlock)))); (case aS => exact (below_size (by repeat (first | (with_reducible first | exact HB.out | apply below_alloc | apply pw_below_drewN | apply below_drew1) | exact HB.out)))); (case aL => have := LMc19.out; omega); intro v148 w49 ho hb hg hat; rw [← Ny147.out] at ho; have n0_ := Aside0.mk (Kd.R_after (Kd.R_apart_nil (by (with_reducible repeat (first | apply Kd.R_alloc | apply Kd.R_drewN | apply Kd.R_drew)); exact HO_7.out)) hg hat); have n1_ := Aside0.mk (Kd.R_grown (by (with_reducible repeat (first | apply Kd.R_alloc | apply Kd.R_drewN | apply Kd.R_drew)); exact HO139.out) hg (fun _ _ => by simp [Value.ownBlock])); have n2_ := Aside0.mk (Kd.R_after (Kd.R_apart_nil (by (with_reducible repeat (first | apply Kd.R_alloc | apply Kd.R_drewN | apply Kd.R_drew)); exact HO146.out)) hg hat); have n3_ := Aside0.mk (hb); have n4_ := Aside0.mk (ho); clear HO_7; clear HO139; clear HO146; clear HB; have HO_7 := n0_; have HO139 := n1_; have HO146 := n2_; have HB := n3_; have HO149 := n4_; clear n0_ n1_ n2_ n3_ n4_; clear ho hb hg hat) | ((with_reducible refine gate_builtin (b := .append) (xs := #[.tmp 59, .tmp 62]) rfl ?_); at_builtin; refine Kd.R_append k25 (w0 := w) w.heap.size rfl (.tmp 59) (.tmp 62) 22 25 (.agg #[(.string ⟨#[]⟩), (.string ⟨#[]⟩)]) 32 rfl Tryd.underlying22 info25 rfl (by decide) (by omega) v148 y147 (⟨(⟨#[88]⟩ : ByteArray), x9_13⟩ : S25) [.string (⟨#[88]⟩ : ByteArray), .string x9_13] (fun k_ => some k_ ≠ (.slice Ao47 x7_1.length co47 : Value).ownBlock ∧ some k_ ≠ (v145 : Value).ownBlock) (fun _ => False) rfl rfl ?aP (fun _ hk => hk.elim) ?aF ?aO ?aB ?aS ?aL ?_; (case aP => exact k25_mkM _ _ _ (⟨(⟨#[88]⟩ : ByteArray), x9_13⟩ : S25)); (case aB => exact (by repeat (first | (with_reducible first | exact HB.out | apply below_alloc | apply pw_below_drewN | apply below_drew1) | exact HB.out))); (case aF => exact (fun k_ hk => ⟨Kd.fresh' (Kd.R_lt (by (with_reducible repeat (first | apply Kd.R_alloc | apply Kd.R_drewN | apply Kd.R_drew)); exact HO_7.out)) k_ hk, Kd.fresh' (Kd.R_lt (by (with_reducible repeat (first | apply Kd.R_alloc | apply Kd.R_drewN | apply Kd.R_drew)); exact HO146.out)) k_ hk⟩)); (case aO => exact (by (with_reducible repeat (first | apply Kd.R_alloc | apply Kd.R_drewN | apply Kd.R_drew)); exact HO149.out)); (case aS => exact (below_size (by repeat (first | (with_reducible first | exact HB.out | apply below_alloc | apply pw_below_drewN | apply below_drew1) | exact HB.out)))); (case aL => have := LMc24.out; omega); intro v151 w50 ho hb hg hat; rw [← Ny150.out] at ho; have n0_ := Aside0.mk (Kd.R_after (ok := (fun k_ => some k_ ≠ (v145 : Value).ownBlock)) (by (with_reducible repeat (first | apply Kd.R_alloc | apply Kd.R_drewN | apply Kd.R_drew)); exact Kd.R_mono HO_7.out (fun _ hk => ⟨hk.1.2, hk.2⟩)) hg hat); have n1_ := Aside0.mk (Kd.R_over' (by (with_reducible repeat (first | apply Kd.R_alloc | apply Kd.R_drewN | apply Kd.R_drew)); exact HO139.out) (Kd.R_typed (by (with_reducible repeat (first | apply Kd.R_alloc | apply Kd.R_drewN | apply Kd.R_drew)); exact HO149.out)) (by decide) hg); have n2_ := Aside0.mk (Kd.R_after (ok := (fun k_ => some k_ ≠ (.slice Ao47 x7_1.length co47 : Value).ownBlock)) (by (with_reducible repeat (first | apply Kd.R_alloc | apply Kd.R_drewN | apply Kd.R_drew)); exact HO146.out) hg hat); have n3_ := Aside0.mk (hb); have n4_ := Aside0.mk (ho); clear HO_7; clear HO139; clear HO146; clear HB; clear HO149; have HO_7 := n0_; have HO139 := n1_; have HO146 := n2_; have HB := n3_; have HO152 := n4_; clear n0_ n1_ n2_ n3_ n4_; clear ho hb hg hat; obtain ⟨Ao51, co51, eo51⟩ := Kd.R_slice HO146.out; subst eo51) | ((with_reducible refine gate_callee (f := 13) rfl ?_); refine goesL_ (some 65) rfl rfl Tryd.func13 (by kernel_rfl) rfl #[.slice Ao51 y144.length co51] rfl (by (try simp only [List.map_toArray, List.map_cons, List.map_nil]); first | done | rfl | (simp only [List.length_drop, List.length_take]; rfl)) ?_; (with_reducible refine (csp_Public.calls kj13 _ _ y144 true _ ?side1 ?side2 A25.out).mono ?_); (case side1 => repeat (first | exact (Kd.R_reads' HO146.out).2.2 | (with_reducible refine Kd.C_alloc ?_ _) | (with_reducible refine Kd.C_drewN ?_ _) | (with_reducible refine Kd.C_drew ?_))); (case side2 => exact (Kd.R_reads' HO146.out).2.1); rintro e w52 ⟨rfl, hb⟩; refine ⟨_, rfl, ?_⟩; have n0_ := Aside0.mk (Kd.R_below (by (with_reducible repeat (first | apply Kd.R_alloc | apply Kd.R_drewN | apply Kd.R_drew)); exact HO_7.out) hb); have n1_ := Aside0.mk (Kd.R_below (by (with_reducible repeat (first | apply Kd.R_alloc | apply Kd.R_drewN | apply Kd.R_drew)); exact HO139.out) hb); have n2_ := Aside0.mk (Kd.R_below (by (with_reducible repeat (first | apply Kd.R_alloc | apply Kd.R_drewN | apply Kd.R_drew)); exact HO146.out) hb); have n3_ := Aside0.mk (Kd.R_below (by (with_reducible repeat (first | apply Kd.R_alloc | apply Kd.R_drewN | apply Kd.R_drew)); exact HO152.out) hb); have n4_ := Aside0.mk (below_step (by repeat (first | (with_reducible first | exact HB.out | apply below_alloc | apply pw_below_drewN | apply below_drew1) | exact HB.out)) hb); clear HO_7; clear HO139; clear HO146; clear HO152; clear HB; have HO_7 := n0_; have HO139 := n1_; have HO146 := n2_; have HO152 := n3_; have HB := n4_; clear n0_ n1_ n2_ n3_ n4_; (try clear hb); (try clear hb2); (try clear hk); (try clear hi); obtain ⟨Ao53, co53, eo53⟩ := Kd.R_slice HO152.out; subst eo53) | (go_at_call 13; (with_reducible refine (csp_Public.calls kj13 _ _ y150 t154 _ ?side1 ?side2 A27.out).mono ?_); (case side1 => repeat (first | exact (Kd.R_reads' HO152.out).2.2 | (with_reducible refine Kd.C_alloc ?_ _) | (with_reducible refine Kd.C_drewN ?_ _) | (with_reducible refine Kd.C_drew ?_))); (case side2 => exact (Kd.R_reads' HO152.out).2.1); rintro e w54 ⟨rfl, hb⟩; have n0_ := Aside0.mk (Kd.R_below (by (with_reducible repeat (first | apply Kd.R_alloc | apply Kd.R_drewN | apply Kd.R_drew)); exact HO_7.out) hb); have n1_ := Aside0.mk (Kd.R_below (by (with_reducible repeat (first | apply Kd.R_alloc | apply Kd.R_drewN | apply Kd.R_drew)); exact HO139.out) hb); have n2_ := Aside0.mk (Kd.R_below (by (with_reducible repeat (first | apply Kd.R_alloc | apply Kd.R_drewN | apply Kd.R_drew)); exact HO146.out) hb); have n3_ := Aside0.mk (Kd.R_below (by (with_reducible repeat (first | apply Kd.R_alloc | apply Kd.R_drewN | apply Kd.R_drew)); exact HO152.out) hb); have n4_ := Aside0.mk (below_step (by repeat (first | (with_reducible first | exact HB.out | apply below_alloc | apply pw_below_drewN | apply below_drew1) | exact HB.out)) hb); clear HO_7; clear HO139; clear HO146; clear HO152; clear HB; have HO_7 := n0_; have HO139 := n1_; have HO146 := n2_; have HO152 := n3_; have HB := n4_; clear n0_ n1_ n2_ n3_ n4_; (try clear hb); (try clear hb2); (try clear hk); (try clear hi)) | (go_at_call 13; (with_reducible refine (csp_Public.calls kj13 _ _ x7_1 t155 _ ?side1 ?side2 A28.out).mono ?_); (case side1 => repeat (first | exact (Kd.R_reads' HO_7.out).2.2 | (with_reducible refine Kd.C_alloc ?_ _) | (with_reducible refine Kd.C_drewN ?_ _) | (with_reducible refine Kd.C_drew ?_))); (case side2 => exact (Kd.R_reads' HO_7.out).2.1); rintro e w55 ⟨rfl, hb⟩; have n0_ := Aside0.mk (Kd.R_below (by (with_reducible repeat (first | apply Kd.R_alloc | apply Kd.R_drewN | apply Kd.R_drew)); exact HO_7.out) hb); have n1_ := Aside0.mk (Kd.R_below (by (with_reducible repeat (first | apply Kd.R_alloc | apply Kd.R_drewN | apply Kd.R_drew)); exact HO139.out) hb); have n2_ := Aside0.mk (Kd.R_below (by (with_reducible repeat (first | apply Kd.R_alloc | apply Kd.R_drewN | apply Kd.R_drew)); exact HO146.out) hb); have n3_ := Aside0.mk (Kd.R_below (by (with_reducible repeat (first | apply Kd.R_alloc | apply Kd.R_drewN | apply Kd.R_drew)); exact HO152.out) hb); have n4_ := Aside0.mk (below_step (by repeat (first | (with_reducible first | exact HB.out | apply below_alloc | apply pw_below_drewN | apply below_drew1) | exact HB.out)) hb); clear HO_7; clear HO139; clear HO146; clear HO152; clear HB; have HO_7 := n0_; have HO139 := n1_; have HO146 := n2_; have HO152 := n3_; have HB := n4_; clear n0_ n1_ n2_ n3_ n4_; (try clear hb); (try clear hb2); (try clear hk); (try clear hi)))
                                go_ret
                                exact ⟨by first | rfl | (simp [errW_none, errW_some] <;> rfl) | (simp [*, errW_none, errW_some] <;> rfl), by repeat (first | (with_reducible first | exact HB.out | apply below_alloc | apply pw_below_drewN | apply below_drew1) | exact HB.out)⟩
                            · replace c26 := Bool.eq_false_iff.mpr c26
                              subst c26
                              have H1 : (some false) = some r := by rw [if_neg (show ¬ (false = true) by decide)] at H; exact H
                              clear H
                              have H := H1
                              clear H1
                              obtain rfl := Option.some.inj H
                              go_wp2_with (first | ((with_reducible refine gate_callee (f := 8) rfl ?_); refine goesL_ (some 41) rfl rfl Tryd.func8 (by kernel_rfl) rfl #[.string a1, .int .i64 40] rfl (by (try simp only [List.map_toArray, List.map_cons, List.map_nil]); first | done | rfl | (simp only [List.length_drop, List.length_take]; rfl)) ?_; (with_reducible refine (abatisref01_Few.calls a1 40 t136 _ A16.out).mono ?_); rintro e w' ⟨rfl, ⟨nd, rfl⟩⟩; refine ⟨_, rfl, ?_⟩) | ((with_reducible refine gate_callee (f := 17) rfl ?_); refine goesL_ (some 42) rfl rfl Tryd.func17 (by kernel_rfl) rfl #[.string t136, .int .u8 44] rfl (by (try simp only [List.map_toArray, List.map_cons, List.map_nil]); first | done | rfl | (simp only [List.length_drop, List.length_take]; rfl)) ?_; (with_reducible refine (abatisref01_Split.calls kj13 t136 44 t137 _ A17.out).mono ?_); rintro e w56 ⟨v138, rfl, ho0, hb⟩; refine ⟨_, rfl, ?_⟩; have n0_ := Aside0.mk (Kd.R_below (by (with_reducible repeat (first | apply Kd.R_alloc | apply Kd.R_drewN | apply Kd.R_drew)); exact HO_7.out) hb); have n1_ := Aside0.mk (Kd.R_lower ho0 (below_size (by repeat (first | (with_reducible first | exact HB.out | apply below_alloc | apply pw_below_drewN | apply below_drew1) | exact HB.out)))); have n2_ := Aside0.mk (below_step (by repeat (first | (with_reducible first | exact HB.out | apply below_alloc | apply pw_below_drewN | apply below_drew1) | exact HB.out)) hb); clear HO_7; clear HB; have HO_7 := n0_; have HO139 := n1_; have HB := n2_; clear n0_ n1_ n2_; (try clear hb); (try clear hb2); (try clear hk); (try clear hi); (try clear ho0); obtain ⟨Ao57, co57, eo57⟩ := Kd.R_slice HO139.out; subst eo57) | ((with_reducible refine gate_callee (f := 16) rfl ?_); refine goesL_ (some 43) rfl rfl Tryd.func16 (by kernel_rfl) rfl #[.slice Ao57 t137.length co57, .string (⟨#[]⟩ : ByteArray)] rfl (by (try simp only [List.map_toArray, List.map_cons, List.map_nil]); first | done | rfl | (simp only [List.length_drop, List.length_take]; rfl)) ?_; (with_reducible refine (abatisref01_Join.calls kj13 _ _ t137 (⟨#[]⟩ : ByteArray) t140 _ ?side1 ?side2 A18.out).mono ?_); (case side1 => repeat (first | exact (Kd.R_reads' HO139.out).2.2 | (with_reducible refine Kd.C_alloc ?_ _) | (with_reducible refine Kd.C_drewN ?_ _) | (with_reducible refine Kd.C_drew ?_))); (case side2 => exact (Kd.R_reads' HO139.out).2.1); rintro e w' ⟨rfl, ⟨nd, rfl⟩⟩; refine ⟨_, rfl, ?_⟩; obtain ⟨Ao59, co59, eo59⟩ := Kd.R_slice HO_7.out; subst eo59) | ((with_reducible refine gate_builtin (b := .append) (xs := #[.tmp 44, .tmp 45]) rfl ?_); at_builtin; refine Kd.R_append_rows k25 (w0 := w) w.heap.size rfl (.tmp 44) (.tmp 45) 22 25 (.agg #[(.string ⟨#[]⟩), (.string ⟨#[]⟩)]) 32 rfl Tryd.underlying22 info25 rfl (by decide) (by omega) (.slice none 0 0) ([] : List (S25)) x7_1 _ _ _ (fun k_ => some k_ ≠ (.slice Ao59 x7_1.length co59 : Value).ownBlock) (fun _ => False) rfl rfl ?aO ?aR (fun _ _ h => h) (fun _ h => h.elim) ?aF ?aB ?aS ?aL ?_; (case aR => repeat (first | exact (Kd.R_reads' HO_7.out).2.2 | (with_reducible refine Kd.C_alloc ?_ _) | (with_reducible refine Kd.C_drewN ?_ _) | (with_reducible refine Kd.C_drew ?_))); (case aB => exact (by repeat (first | (with_reducible first | exact HB.out | apply below_alloc | apply pw_below_drewN | apply below_drew1) | exact HB.out))); (case aF => exact (fun k_ hk => Kd.fresh' (Kd.R_lt (by (with_reducible repeat (first | apply Kd.R_alloc | apply Kd.R_drewN | apply Kd.R_drew)); exact HO_7.out)) k_ hk)); (case aO => exact ((Kd.R_nil _ _ _ _ (fun k_ => some k_ ≠ (.slice Ao59 x7_1.length co59 : Value).ownBlock)))); (case aS => exact (below_size (by repeat (first | (with_reducible first | exact HB.out | apply below_alloc | apply pw_below_drewN | apply below_drew1) | exact HB.out)))); (case aL => have := LMc19.out; omega); intro v142 w58 ho hb hg hat; rw [← Ny141.out] at ho; have n0_ := Aside0.mk (Kd.R_after (Kd.R_apart_nil (by (with_reducible repeat (first | apply Kd.R_alloc | apply Kd.R_drewN | apply Kd.R_drew)); exact HO_7.out)) hg hat); have n1_ := Aside0.mk (Kd.R_grown (by (with_reducible repeat (first | apply Kd.R_alloc | apply Kd.R_drewN | apply Kd.R_drew)); exact HO139.out) hg (fun _ _ => by simp [Value.ownBlock])); have n2_ := Aside0.mk (hb); have n3_ := Aside0.mk (ho); clear HO_7; clear HO139; clear HB; have HO_7 := n0_; have HO139 := n1_; have HB := n2_; have HO143 := n3_; clear n0_ n1_ n2_ n3_; clear ho hb hg hat) | ((with_reducible refine gate_builtin (b := .append) (xs := #[.tmp 47, .tmp 54]) rfl ?_); at_builtin; refine Kd.R_append k25 (w0 := w) w.heap.size rfl (.tmp 47) (.tmp 54) 22 25 (.agg #[(.string ⟨#[]⟩), (.string ⟨#[]⟩)]) 32 rfl Tryd.underlying22 info25 rfl (by decide) (by omega) v142 y141 (⟨(⟨#[67, 79, 78, 84, 69, 78, 84, 45, 115, 101, 99, 117, 114, 105, 116, 121, 45, 80, 79, 76, 73, 67, 89]⟩ : ByteArray), ((t140 ++ (⟨#[59, 9]⟩ : ByteArray)) ++ x9_13) ++ (⟨#[32, 120]⟩ : ByteArray)⟩ : S25) [.string (⟨#[67, 79, 78, 84, 69, 78, 84, 45, 115, 101, 99, 117, 114, 105, 116, 121, 45, 80, 79, 76, 73, 67, 89]⟩ : ByteArray), .string (((t140 ++ (⟨#[59, 9]⟩ : ByteArray)) ++ x9_13) ++ (⟨#[32, 120]⟩ : ByteArray))] (fun k_ => some k_ ≠ (.slice Ao59 x7_1.length co59 : Value).ownBlock) (fun _ => False) rfl rfl ?aP (fun _ hk => hk.elim) ?aF ?aO ?aB ?aS ?aL ?_; (case aP => exact k25_mkM _ _ _ (⟨(⟨#[67, 79, 78, 84, 69, 78, 84, 45, 115, 101, 99, 117, 114, 105, 116, 121, 45, 80, 79, 76, 73, 67, 89]⟩ : ByteArray), ((t140 ++ (⟨#[59, 9]⟩ : ByteArray)) ++ x9_13) ++ (⟨#[32, 120]⟩ : ByteArray)⟩ : S25)); (case aB => exact (by repeat (first | (with_reducible first | exact HB.out | apply below_alloc | apply pw_below_drewN | apply below_drew1) | exact HB.out))); (case aF => exact (fun k_ hk => Kd.fresh' (Kd.R_lt (by (with_reducible repeat (first | apply Kd.R_alloc | apply Kd.R_drewN | apply Kd.R_drew)); exact HO_7.out)) k_ hk)); (case aO => exact (by (with_reducible repeat (first | apply Kd.R_alloc | apply Kd.R_drewN | apply Kd.R_drew)); exact HO143.out)); (case aS => exact (below_size (by repeat (first | (with_reducible first | exact HB.out | apply below_alloc | apply pw_below_drewN | apply below_drew1) | exact HB.out)))); (case aL => have := LMc23.out; omega); intro v145 w60 ho hb hg hat; rw [← Ny144.out] at ho; have n0_ := Aside0.mk (Kd.R_after (ok := (fun _ => True)) (by (with_reducible repeat (first | apply Kd.R_alloc | apply Kd.R_drewN | apply Kd.R_drew)); exact HO_7.out) hg hat); have n1_ := Aside0.mk (Kd.R_over' (by (with_reducible repeat (first | apply Kd.R_alloc | apply Kd.R_drewN | apply Kd.R_drew)); exact HO139.out) (Kd.R_typed (by (with_reducible repeat (first | apply Kd.R_alloc | apply Kd.R_drewN | apply Kd.R_drew)); exact HO143.out)) (by decide) hg); have n2_ := Aside0.mk (hb); have n3_ := Aside0.mk (ho); clear HO_7; clear HO139; clear HB; clear HO143; have HO_7 := n0_; have HO139 := n1_; have HB := n2_; have HO146 := n3_; clear n0_ n1_ n2_ n3_; clear ho hb hg hat) | ((with_reducible refine gate_builtin (b := .append) (xs := #[.tmp 56, .tmp 57]) rfl ?_); at_builtin; refine Kd.R_append_rows k25 (w0 := w) w.heap.size rfl (.tmp 56) (.tmp 57) 22 25 (.agg #[(.string ⟨#[]⟩), (.string ⟨#[]⟩)]) 32 rfl Tryd.underlying22 info25 rfl (by decide) (by omega) (.slice none 0 0) ([] : List (S25)) x7_1 _ _ _ (fun k_ => some k_ ≠ (.slice Ao59 x7_1.length co59 : Value).ownBlock ∧ some k_ ≠ (v145 : Value).ownBlock) (fun _ => False) rfl rfl ?aO ?aR (fun _ _ h => h) (fun _ h => h.elim) ?aF ?aB ?aS ?aL ?_; (case aR => repeat (first | exact (Kd.R_reads' HO_7.out).2.2 | (with_reducible refine Kd.C_alloc ?_ _) | (with_reducible refine Kd.C_drewN ?_ _) | (with_reducible refine Kd.C_drew ?_))); (case aB => exact (by repeat (first | (with_reducible first | exact HB.out | apply below_alloc | apply pw_below_drewN | apply below_drew1) | exact HB.out))); (case aF => exact (fun k_ hk => ⟨Kd.fresh' (Kd.R_lt (by (with_reducible repeat (first | apply Kd.R_alloc | apply Kd.R_drewN | apply Kd.R_drew)); exact HO_7.out)) k_ hk, Kd.fresh' (Kd.R_lt (by (with_reducible repeat (first | apply Kd.R_alloc | apply Kd.R_drewN | apply Kd.R_drew)); exact HO146.out)) k_ hk⟩)); (case aO => exact ((Kd.R_nil _ _ _ _ (fun k_ => some k_ ≠ (.slice Ao59 x7_1.length co59 : Value).ownBlock ∧ some k_ ≠ (v145 : Value).ownBlock)))); (case aS => exact (below_size (by repeat (first | (with_reducible first | exact HB.out | apply below_alloc | apply pw_below_drewN | apply below_drew1) | exact HB.out)))); (case aL => have := LMc19.out; omega); intro v148 w61 ho hb hg hat; rw [← Ny147.out] at ho; have n0_ := Aside0.mk (Kd.R_after (Kd.R_apart_nil (by (with_reducible repeat (first | apply Kd.R_alloc | apply Kd.R_drewN | apply Kd.R_drew)); exact HO_7.out)) hg hat); have n1_ := Aside0.mk (Kd.R_grown (by (with_reducible repeat (first | apply Kd.R_alloc | apply Kd.R_drewN | apply Kd.R_drew)); exact HO139.out) hg (fun _ _ => by simp [Value.ownBlock])); have n2_ := Aside0.mk (Kd.R_after (Kd.R_apart_nil (by (with_reducible repeat (first | apply Kd.R_alloc | apply Kd.R_drewN | apply Kd.R_drew)); exact HO146.out)) hg hat); have n3_ := Aside0.mk (hb); have n4_ := Aside0.mk (ho); clear HO_7; clear HO139; clear HO146; clear HB; have HO_7 := n0_; have HO139 := n1_; have HO146 := n2_; have HB := n3_; have HO149 := n4_; clear n0_ n1_ n2_ n3_ n4_; clear ho hb hg hat) | ((with_reducible refine gate_builtin (b := .append) (xs := #[.tmp 59, .tmp 62]) rfl ?_); at_builtin; refine Kd.R_append k25 (w0 := w) w.heap.size rfl (.tmp 59) (.tmp 62) 22 25 (.agg #[(.string ⟨#[]⟩), (.string ⟨#[]⟩)]) 32 rfl Tryd.underlying22 info25 rfl (by decide) (by omega) v148 y147 (⟨(⟨#[88]⟩ : ByteArray), x9_13⟩ : S25) [.string (⟨#[88]⟩ : ByteArray), .string x9_13] (fun k_ => some k_ ≠ (.slice Ao59 x7_1.length co59 : Value).ownBlock ∧ some k_ ≠ (v145 : Value).ownBlock) (fun _ => False) rfl rfl ?aP (fun _ hk => hk.elim) ?aF ?aO ?aB ?aS ?aL ?_; (case aP => exact k25_mkM _ _ _ (⟨(⟨#[88]⟩ : ByteArray), x9_13⟩ : S25)); (case aB => exact (by repeat (first | (with_reducible first | exact HB.out | apply below_alloc | apply pw_below_drewN | apply below_drew1) | exact HB.out))); (case aF => exact (fun k_ hk => ⟨Kd.fresh' (Kd.R_lt (by (with_reducible repeat (first | apply Kd.R_alloc | apply Kd.R_drewN | apply Kd.R_drew)); exact HO_7.out)) k_ hk, Kd.fresh' (Kd.R_lt (by (with_reducible repeat (first | apply Kd.R_alloc | apply Kd.R_drewN | apply Kd.R_drew)); exact HO146.out)) k_ hk⟩)); (case aO => exact (by (with_reducible repeat (first | apply Kd.R_alloc | apply Kd.R_drewN | apply Kd.R_drew)); exact HO149.out)); (case aS => exact (below_size (by repeat (first | (with_reducible first | exact HB.out | apply below_alloc | apply pw_below_drewN | apply below_drew1) | exact HB.out)))); (case aL => have := LMc24.out; omega); intro v151 w62 ho hb hg hat; rw [← Ny150.out] at ho; have n0_ := Aside0.mk (Kd.R_after (ok := (fun k_ => some k_ ≠ (v145 : Value).ownBlock)) (by (with_reducible repeat (first | apply Kd.R_alloc | apply Kd.R_drewN | apply Kd.R_drew)); exact Kd.R_mono HO_7.out (fun _ hk => ⟨hk.1.2, hk.2⟩)) hg hat); have n1_ := Aside0.mk (Kd.R_over' (by (with_reducible repeat (first | apply Kd.R_alloc | apply Kd.R_drewN | apply Kd.R_drew)); exact HO139.out) (Kd.R_typed (by (with_reducible repeat (first | apply Kd.R_alloc | apply Kd.R_drewN | apply Kd.R_drew)); exact HO149.out)) (by decide) hg); have n2_ := Aside0.mk (Kd.R_after (ok := (fun k_ => some k_ ≠ (.slice Ao59 x7_1.length co59 : Value).ownBlock)) (by (with_reducible repeat (first | apply Kd.R_alloc | apply Kd.R_drewN | apply Kd.R_drew)); exact HO146.out) hg hat); have n3_ := Aside0.mk (hb); have n4_ := Aside0.mk (ho); clear HO_7; clear HO139; clear HO146; clear HB; clear HO149; have HO_7 := n0_; have HO139 := n1_; have HO146 := n2_; have HB := n3_; have HO152 := n4_; clear n0_ n1_ n2_ n3_ n4_; clear ho hb hg hat; obtain ⟨Ao63, co63, eo63⟩ := Kd.R_slice HO146.out; subst eo63) | ((with_reducible refine gate_callee (f := 13) rfl ?_); refine goesL_ (some 65) rfl rfl Tryd.func13 (by kernel_rfl) rfl #[.slice Ao63 y144.length co63] rfl (by (try simp only [List.map_toArray, List.map_cons, List.map_nil]); first | done | rfl | (simp only [List.length_drop, List.length_take]; rfl)) ?_; (with_reducible refine (csp_Public.calls kj13 _ _ y144 false _ ?side1 ?side2 A25.out).mono ?_); (case side1 => repeat (first | exact (Kd.R_reads' HO146.out).2.2 | (with_reducible refine Kd.C_alloc ?_ _) | (with_reducible refine Kd.C_drewN ?_ _) | (with_reducible refine Kd.C_drew ?_))); (case side2 => exact (Kd.R_reads' HO146.out).2.1); rintro e w64 ⟨rfl, hb⟩; refine ⟨_, rfl, ?_⟩; have n0_ := Aside0.mk (Kd.R_below (by (with_reducible repeat (first | apply Kd.R_alloc | apply Kd.R_drewN | apply Kd.R_drew)); exact HO_7.out) hb); have n1_ := Aside0.mk (Kd.R_below (by (with_reducible repeat (first | apply Kd.R_alloc | apply Kd.R_drewN | apply Kd.R_drew)); exact HO139.out) hb); have n2_ := Aside0.mk (Kd.R_below (by (with_reducible repeat (first | apply Kd.R_alloc | apply Kd.R_drewN | apply Kd.R_drew)); exact HO146.out) hb); have n3_ := Aside0.mk (Kd.R_below (by (with_reducible repeat (first | apply Kd.R_alloc | apply Kd.R_drewN | apply Kd.R_drew)); exact HO152.out) hb); have n4_ := Aside0.mk (below_step (by repeat (first | (with_reducible first | exact HB.out | apply below_alloc | apply pw_below_drewN | apply below_drew1) | exact HB.out)) hb); clear HO_7; clear HO139; clear HO146; clear HO152; clear HB; have HO_7 := n0_; have HO139 := n1_; have HO146 := n2_; have HO152 := n3_; have HB := n4_; clear n0_ n1_ n2_ n3_ n4_; (try clear hb); (try clear hb2); (try clear hk); (try clear hi)))
                              go_ret
                              exact ⟨by first | rfl | (simp [errW_none, errW_some] <;> rfl) | (simp [*, errW_none, errW_some] <;> rfl), by repeat (first | (with_reducible first | exact HB.out | apply below_alloc | apply pw_below_drewN | apply below_drew1) | exact HB.out)⟩
                          · rw [if_neg c24] at H
                            exact absurd H (by simp)
                        · rw [if_neg c23] at H
                          exact absurd H (by simp)
                      · rw [if_neg c22] at H
                        exact absurd H (by simp)
                    · rw [if_neg c21] at H
                      exact absurd H (by simp)
                  · rw [if_neg c20] at H
                    exact absurd H (by simp)
                · rw [if_neg c19] at H
                  exact absurd H (by simp)

/-- THE ONE PURE STATEMENT of abatislaw15_CspAdds. -/
def abatislaw15_CspAdds.Pure : Prop := ∀ (l0 : List (S25)) (a1 : ByteArray) (a2 : Bool), (l0.length ≤ 9223372036854775807 ∧ ∀ x_ ∈ l0, (x_.f0.size ≤ 9223372036854775807 ∧ x_.f1.size ≤ 9223372036854775807)) → a1.size ≤ 140737488351232 → ∃ k, abatislaw15_CspAdds.f k l0 a1 a2 = some true
-- EXT abatis/abatislaw15.CspAdds {"rounds": 1, "making": 1}

end Go.Proofs.YthjhbhgfckaklaaDoor.P
