-- PRINTED by pr.py (a driver round the kit's print program): not trusted, Lean checks it.
import Derived.Test.YthjhbhgfckaklaaDoorPb
import Derived.Test.YthjhbhgfckaklaaDoorPA1
import Derived.Test.YthjhbhgfckaklaaDoorPA2
import Derived.Test.YthjhbhgfckaklaaDoorPA3
namespace Go.Proofs.YthjhbhgfckaklaaDoor.P
open Go.RowKit Go.Proofs.YthjhbhgfckaklaaDoorW.PrintWords Go.Proofs.YthjhbhgfckaklaaDoorW.PrintLast Go.Proofs.YthjhbhgfckaklaaDoorW.PrintMore
attribute [local go_sem] max2_int min2_int max_two min_two max_three min_three max_four min_four   -- for this text's walks alone
set_option linter.unusedVariables false
set_option linter.unusedSimpArgs false

/-! ### abatisref15_Parse: function 38 -/
def abatisref15_Parse.l0 : Nat → List (S77) → List ByteArray → Int → Option ((List (S77)))
  | 0, _, _, _ => none
  | k + 1, x3, x4, x5 => if x5 < (x4.length : Int) then (if 0 ≤ x5 then ((abatisref15_Words.f k (rdOf ByteArray.empty x4 x5)).bind fun t149 => (if (t149.length : Int) > 0 then (if 0 < (t149.length : Int) then ((abatisref15_find.f k x3 (rdOf ByteArray.empty t149 0)).bind fun t153 => (if t153 < 0 then ((abatisref01_Lower.f k (rdOf ByteArray.empty t149 0)).bind fun t155 => (if 1 ≤ (t149.length : Int) then (if x3.length < 3518437208883 then (abatisref15_Parse.l0 k (x3 ++ [(⟨t155, (t149.drop 1)⟩ : S77)]) x4 (wrap64 (x5 + 1))) else (none)) else (none))) else (abatisref15_Parse.l0 k x3 x4 (wrap64 (x5 + 1))))) else (none)) else (abatisref15_Parse.l0 k x3 x4 (wrap64 (x5 + 1))))) else (none)) else (some x3)
def abatisref15_Parse.f (k : Nat) (a0 : ByteArray) : Option ((List (S77))) := (abatisref01_Split.f k a0 59).bind fun t145 => (abatisref15_Parse.l0 k ([] : List (S77)) t145 0)
theorem abatisref15_Parse.mono_l : ∀ k, (∀ y0 y1 y2, LeO (abatisref15_Parse.l0 k y0 y1 y2) (abatisref15_Parse.l0 (k + 1) y0 y1 y2))
  | 0 => fun _ _ _ r h => by simp [abatisref15_Parse.l0] at h
  | k + 1 => by
    have ih0 := abatisref15_Parse.mono_l k
    · intro y0 y1 y2
      unfold abatisref15_Parse.l0
      repeat' first
      | (with_reducible exact ih0 _ _ _)
      | (with_reducible exact abatisref01_Lower.mono _ _)
      | (with_reducible exact abatisref01_Split.mono _ _ _)
      | (with_reducible exact abatisref15_Words.mono _ _)
      | (with_reducible exact abatisref15_find.mono _ _ _)
      | (with_reducible exact LeO.refl _)
      | (with_reducible exact LeO.none _)
      | (with_reducible refine LeO.ite ?_ ?_)
      | (with_reducible refine LeO.bind ?_ (fun _ => ?_))
      | exact ih0 _ _ _
      | exact abatisref01_Lower.mono _ _
      | exact abatisref01_Split.mono _ _ _
      | exact abatisref15_Words.mono _ _
      | exact abatisref15_find.mono _ _ _
      | exact LeO.none _
      | refine LeO.ite ?_ ?_
      | refine LeO.bind ?_ (fun _ => ?_)
theorem abatisref15_Parse.mono : ∀ a0 k, LeO (abatisref15_Parse.f k a0) (abatisref15_Parse.f (k + 1) a0) := by
  intro a0 k
  have ih0 := abatisref15_Parse.mono_l k
  unfold abatisref15_Parse.f
  repeat' first
      | (with_reducible exact ih0 _ _ _)
      | (with_reducible exact abatisref01_Lower.mono _ _)
      | (with_reducible exact abatisref01_Split.mono _ _ _)
      | (with_reducible exact abatisref15_Words.mono _ _)
      | (with_reducible exact abatisref15_find.mono _ _ _)
      | (with_reducible exact LeO.refl _)
      | (with_reducible exact LeO.none _)
      | (with_reducible refine LeO.ite ?_ ?_)
      | (with_reducible refine LeO.bind ?_ (fun _ => ?_))
      | exact ih0 _ _ _
      | exact abatisref01_Lower.mono _ _
      | exact abatisref01_Split.mono _ _ _
      | exact abatisref15_Words.mono _ _
      | exact abatisref15_find.mono _ _ _
      | exact LeO.none _
      | refine LeO.ite ?_ ?_
      | refine LeO.bind ?_ (fun _ => ?_)
def abatisref15_Parse.T8 : Bool × List (List Nat × List Nat) := (true, [([], []), ([], []), ([1], [1]), ([2], [2]), ([3], [3]), ([], []), ([5], [5]), ([4, 6], [4, 6]), ([7], [7]), ([0, 8, 4], [0, 8]), ([9, 9, 0, 1, 2, 3, 4, 5, 6, 7, 8, 9], [0, 9])])
def abatisref15_Parse.B8 : List Nat := [0, 0, 2, 6, 14, 0, 32, 126, 254, 511, 1023]
theorem abatisref15_Parse.tab8 : rtab .any (opsOf Tryd.f38 8) = abatisref15_Parse.T8 := by kernel_rfl
theorem abatisref15_Parse.bits8 : waitsOk abatisref15_Parse.T8.2 abatisref15_Parse.B8 = true := by kernel_rfl
set_option maxHeartbeats 8000000 in
set_option maxRecDepth 100000 in
theorem abatisref15_Parse.calls (k : Nat) (a0 : ByteArray) (r : List (S77)) (w : World) (h : abatisref15_Parse.f k a0 = some r) :
    Calls Tryd.prog 38 #[.string a0] w fun e w' => ∃ v0_ : Value, e = .returned (v0_) ∧ Kd.N k77 77 w' w.heap.size (fun k_ => (w.heap.size ≤ k_)) v0_ r ∧ Below w.heap.size w w' := by
  have hu77 := Tryd.underlying77
  have HB := Aside0.mk (Below.refl w.heap.size w)
  have H : ((abatisref01_Split.f k a0 59).bind fun t145 => (abatisref15_Parse.l0 k ([] : List (S77)) t145 0)) = some r := h
  clear h
  replace H := Option.bind_eq_some_iff.mp H
  obtain ⟨t145, A20, H⟩ := H
  replace H : (abatisref15_Parse.l0 k ([] : List (S77)) t145 0) = some r := H
  have A2 := Aside0.mk A20
  clear A20
  have H' := Aside0.mk H
  clear H
  go_enter Tryd.func38, Tryd.ntmps38
  go_wp2_with (first | ((with_reducible refine gate_callee (f := 17) rfl ?_); refine goesL_ (some 8) rfl rfl Tryd.func17 (by kernel_rfl) rfl #[.string a0, .int .u8 59] rfl (by (try simp only [List.map_toArray, List.map_cons, List.map_nil]); first | done | rfl | (simp only [List.length_drop, List.length_take]; rfl)) ?_; (with_reducible refine (abatisref01_Split.calls k a0 59 t145 _ A2.out).mono ?_); rintro e w3 ⟨v146, rfl, ho0, hb⟩; refine ⟨_, rfl, ?_⟩; have n0_ := Aside0.mk (Kd.R_lower (Kd.R_newM (M := fun k_ => (w.heap.size ≤ k_)) ho0 (below_size (by repeat (first | (with_reducible first | exact HB.out | apply below_alloc | apply pw_below_drewN | apply below_drew1) | exact HB.out))) (fun k_ h_ => h_)) (below_size (by repeat (first | (with_reducible first | exact HB.out | apply below_alloc | apply pw_below_drewN | apply below_drew1) | exact HB.out)))); have n1_ := Aside0.mk (below_step (by repeat (first | (with_reducible first | exact HB.out | apply below_alloc | apply pw_below_drewN | apply below_drew1) | exact HB.out)) hb); clear HB; have HO147 := n0_; have HB := n1_; clear n0_ n1_; (try clear hb); (try clear hb2); (try clear hk); (try clear hi); (try clear ho0)))
  go_loopg [3, 5] k (fun kq v3 v5 w' => ∃ (x3_1 : List (S77)) (x5_1 : Int), v5 = .int .i64 x5_1 ∧ Aside0 (abatisref15_Parse.l0 kq x3_1 t145 x5_1 = some r) ∧ Aside0 (kq ≤ k) ∧ Aside0 (Kd.N k77 77 w' w.heap.size (fun k_ => (w.heap.size ≤ k_) ∧ some k_ ≠ (v146 : Value).ownBlock) v3 x3_1) ∧ Aside0 (Kd.R Kd.string 9 w' w.heap.size (fun k_ => (w.heap.size ≤ k_)) v146 t145) ∧ Aside0 (Below w.heap.size w w'))
  case atStart => exact ⟨(([] : List (S77))), (0), (by first | rfl | (simp; done) | (simp [*]; done) | (simp [bne]; done) | (simp [bne, *]; done)), H', ⟨Nat.le_refl _⟩, ⟨by first | exact Kd.S_nil _ _ _ _ _ | exact Kd.N_nil _ _ _ _ _ | exact Kd.V_nil _ _ _ _ _ | exact Kd.Q_nil _ _ _ _ _ | exact Kd.R_nil _ _ _ _ _⟩, ⟨by (with_reducible repeat (first | apply Kd.R_alloc | apply Kd.R_drewN | apply Kd.R_drew)); exact Kd.R_mono HO147.out (fun _ hk => hk.1)⟩, ⟨by repeat (first | (with_reducible first | exact HB.out | apply below_alloc | apply pw_below_drewN | apply below_drew1) | exact HB.out)⟩⟩
  case round =>
    clear H'
    try clear c1
    try clear p2
    try clear c3
    obtain ⟨x3_1, x5_1, rfl, HA, HK1, HO_3, HO_4, HB⟩ := hrel
    cases gk with
    | zero => exact absurd HA.out (by simp [abatisref15_Parse.l0])
    | succ k1 =>
      have H := HA.out
      clear HA
      simp only [abatisref15_Parse.l0] at H
      by_cases c4 : x5_1 < (t145.length : Int)
      · rw [if_pos c4] at H
        have c4b0 : decide (x5_1 < (t145.length : Int)) = true := decide_eq_true c4
        clear c4
        by_cases c5 : 0 ≤ x5_1
        · rw [if_pos c5] at H
          have c5b0 : decide (0 ≤ x5_1) = true := decide_eq_true c5
          clear c5
          replace H := Option.bind_eq_some_iff.mp H
          obtain ⟨t149, A60, H⟩ := H
          replace H : (if (t149.length : Int) > 0 then (if 0 < (t149.length : Int) then ((abatisref15_find.f k1 x3_1 (rdOf ByteArray.empty t149 0)).bind fun t153 => (if t153 < 0 then ((abatisref01_Lower.f k1 (rdOf ByteArray.empty t149 0)).bind fun t155 => (if 1 ≤ (t149.length : Int) then (if x3_1.length < 3518437208883 then (abatisref15_Parse.l0 k1 (x3_1 ++ [(⟨t155, (t149.drop 1)⟩ : S77)]) t145 (wrap64 (x5_1 + 1))) else (none)) else (none))) else (abatisref15_Parse.l0 k1 x3_1 t145 (wrap64 (x5_1 + 1))))) else (none)) else (abatisref15_Parse.l0 k1 x3_1 t145 (wrap64 (x5_1 + 1)))) = some r := H
          have A6 := Aside0.mk A60
          clear A60
          by_cases c7 : (t149.length : Int) > 0
          · rw [if_pos c7] at H
            have c7b0 : decide (0 < (t149.length : Int)) = true := decide_eq_true c7
            have c7b1 : decide (0 < t149.length) = true := decide_eq_true (by omega)
            clear c7
            by_cases c8 : 0 < (t149.length : Int)
            · rw [if_pos c8] at H
              have c8b0 : decide (0 < (t149.length : Int)) = true := decide_eq_true c8
              have c8b1 : decide (0 < t149.length) = true := decide_eq_true (by omega)
              clear c8
              replace H := Option.bind_eq_some_iff.mp H
              obtain ⟨t153, A90, H⟩ := H
              replace H : (if t153 < 0 then ((abatisref01_Lower.f k1 (rdOf ByteArray.empty t149 0)).bind fun t155 => (if 1 ≤ (t149.length : Int) then (if x3_1.length < 3518437208883 then (abatisref15_Parse.l0 k1 (x3_1 ++ [(⟨t155, (t149.drop 1)⟩ : S77)]) t145 (wrap64 (x5_1 + 1))) else (none)) else (none))) else (abatisref15_Parse.l0 k1 x3_1 t145 (wrap64 (x5_1 + 1)))) = some r := H
              have A9 := Aside0.mk A90
              clear A90
              by_cases c10 : t153 < 0
              · rw [if_pos c10] at H
                have c10b0 : decide (t153 < 0) = true := decide_eq_true c10
                clear c10
                replace H := Option.bind_eq_some_iff.mp H
                obtain ⟨t155, A110, H⟩ := H
                replace H : (if 1 ≤ (t149.length : Int) then (if x3_1.length < 3518437208883 then (abatisref15_Parse.l0 k1 (x3_1 ++ [(⟨t155, (t149.drop 1)⟩ : S77)]) t145 (wrap64 (x5_1 + 1))) else (none)) else (none)) = some r := H
                have A11 := Aside0.mk A110
                clear A110
                by_cases c12 : 1 ≤ (t149.length : Int)
                · rw [if_pos c12] at H
                  have c12b0 := eq_true c12
                  have c12b1 : decide (1 ≤ (t149.length : Int)) = true := decide_eq_true c12
                  clear c12
                  obtain ⟨y156, hy156⟩ : ∃ y_ : List ByteArray, y_ = (t149.drop 1) := ⟨_, rfl⟩
                  replace H : (if x3_1.length < 3518437208883 then (abatisref15_Parse.l0 k1 (x3_1 ++ [(⟨t155, y156⟩ : S77)]) t145 (wrap64 (x5_1 + 1))) else (none)) = some r := by first | (rw [hy156]; with_reducible exact H) | (have H2_ := (Option.bind_some _ _).symm.trans H; rw [hy156]; with_reducible exact H2_) | (have H2_ := (Option.bind_some _ _).symm.trans H; with_reducible exact H2_) | with_reducible exact H | (rw [hy156]; exact H) | exact H
                  have Ny156 := Aside0.mk hy156
                  clear hy156
                  by_cases c13 : x3_1.length < 3518437208883
                  · rw [if_pos c13] at H
                    have LMc13 := Aside0.mk c13
                    clear c13
                    obtain ⟨y161, hy161⟩ : ∃ y_ : List (S77), y_ = (x3_1 ++ [(⟨t155, y156⟩ : S77)]) := ⟨_, rfl⟩
                    replace H : (abatisref15_Parse.l0 k1 y161 t145 (wrap64 (x5_1 + 1))) = some r := by first | (rw [hy161]; with_reducible exact H) | (have H2_ := (Option.bind_some _ _).symm.trans H; rw [hy161]; with_reducible exact H2_) | (have H2_ := (Option.bind_some _ _).symm.trans H; with_reducible exact H2_) | with_reducible exact H | (rw [hy161]; exact H) | exact H
                    have Ny161 := Aside0.mk hy161
                    clear hy161
                    have H' := Aside0.mk H
                    clear H
                    obtain ⟨Ao14, co14, eo14⟩ := Kd.R_slice HO_4.out
                    subst eo14
                    have p148 : 0 ≤ (x5_1 : Int) := of_decide_eq_true (by first | (with_reducible assumption) | assumption)
                    have q148 : x5_1 < (t145.length : Int) := of_decide_eq_true (by first | (with_reducible assumption) | assumption)
                    obtain ⟨ad148, e148, hx148_0⟩ := Kd.at_string (Kd.R_reads' HO_4.out).2.2 x5_1 p148 q148
                    cases e148
                    replace p148 := eq_true p148
                    replace q148 := eq_true q148
                    try go_wp2_with (first | ((with_reducible refine gate_callee (f := 75) rfl ?_); refine goesL_ (some 19) rfl rfl Tryd.func75 (by kernel_rfl) rfl #[.string (rdOf ByteArray.empty t145 x5_1)] rfl (by (try simp only [List.map_toArray, List.map_cons, List.map_nil]); first | done | rfl | (simp only [List.length_drop, List.length_take]; rfl)) ?_; (with_reducible refine (abatisref15_Words.calls k1 (rdOf ByteArray.empty t145 x5_1) t149 _ A6.out).mono ?_); rintro e w15 ⟨v150, rfl, ho0, hb⟩; refine ⟨_, rfl, ?_⟩; have n0_ := Aside0.mk (Kd.N_elder' (by (with_reducible repeat (first | apply Kd.N_alloc | apply Kd.N_drewN | apply Kd.N_drew)); exact HO_3.out) (Kd.R_base ho0) hb); have n1_ := Aside0.mk (Kd.R_elder' (by (with_reducible repeat (first | apply Kd.R_alloc | apply Kd.R_drewN | apply Kd.R_drew)); exact HO_4.out) (Kd.R_base ho0) hb); have n2_ := Aside0.mk (Kd.R_lower (Kd.R_new' (Kd.R_newM (M := fun k_ => (w.heap.size ≤ k_)) ho0 (below_size (by repeat (first | (with_reducible first | exact HB.out | apply below_alloc | apply pw_below_drewN | apply below_drew1) | exact HB.out))) (fun k_ h_ => h_)) (Kd.R_lt (by (with_reducible repeat (first | apply Kd.R_alloc | apply Kd.R_drewN | apply Kd.R_drew)); exact HO_4.out))) (below_size (by repeat (first | (with_reducible first | exact HB.out | apply below_alloc | apply pw_below_drewN | apply below_drew1) | exact HB.out)))); have n3_ := Aside0.mk (below_step (by repeat (first | (with_reducible first | exact HB.out | apply below_alloc | apply pw_below_drewN | apply below_drew1) | exact HB.out)) hb); clear HO_3; clear HO_4; clear HB; have HO_3 := n0_; have HO_4 := n1_; have HO151 := n2_; have HB := n3_; clear n0_ n1_ n2_ n3_; (try clear hb); (try clear hb2); (try clear hk); (try clear hi); (try clear ho0); obtain ⟨Ao16, co16, eo16⟩ := Kd.R_slice HO151.out; subst eo16; have p152 : 0 ≤ (0 : Int) := (by omega); have q152 : 0 < (t149.length : Int) := of_decide_eq_true (by first | (with_reducible assumption) | assumption); obtain ⟨ad152, e152, hx152_0⟩ := Kd.at_string (Kd.R_reads' HO151.out).2.2 0 p152 q152; cases e152; have qi152 : (0 < t149.length) = True := eq_true (by omega); (try rw [show ((0 : Int)).toNat = 0 from rfl] at hx152_0); (try rw [Addr.add_zero'] at hx152_0); replace p152 := eq_true p152; replace q152 := eq_true q152; obtain ⟨Ao17, co17, eo17⟩ := Kd.N_slice HO_3.out; subst eo17) | (go_at_call 43; (with_reducible refine (abatisref15_find.calls k1 _ _ x3_1 (rdOf ByteArray.empty t149 0) t153 _ ?side1 ?side2 A9.out).mono ?_); (case side1 => repeat (first | exact (Kd.N_reads' HO_3.out).2.2 | (with_reducible refine Kd.C_alloc ?_ _) | (with_reducible refine Kd.C_drewN ?_ _) | (with_reducible refine Kd.C_drew ?_))); (case side2 => exact (Kd.N_reads' HO_3.out).2.1); rintro e w18 ⟨rfl, hb⟩; have n0_ := Aside0.mk (Kd.N_below (by (with_reducible repeat (first | apply Kd.N_alloc | apply Kd.N_drewN | apply Kd.N_drew)); exact HO_3.out) hb); have n1_ := Aside0.mk (Kd.R_below (by (with_reducible repeat (first | apply Kd.R_alloc | apply Kd.R_drewN | apply Kd.R_drew)); exact HO_4.out) hb); have n2_ := Aside0.mk (Kd.R_below (by (with_reducible repeat (first | apply Kd.R_alloc | apply Kd.R_drewN | apply Kd.R_drew)); exact HO151.out) hb); have n3_ := Aside0.mk (below_step (by repeat (first | (with_reducible first | exact HB.out | apply below_alloc | apply pw_below_drewN | apply below_drew1) | exact HB.out)) hb); clear HO_3; clear HO_4; clear HO151; clear HB; have HO_3 := n0_; have HO_4 := n1_; have HO151 := n2_; have HB := n3_; clear n0_ n1_ n2_ n3_; (try clear hb); (try clear hb2); (try clear hk); (try clear hi)))
                    have n0_ := Aside0.mk (Kd.N_drew HO_3.out)
                    have n1_ := Aside0.mk (Kd.R_drew HO_4.out)
                    have n2_ := Aside0.mk (Kd.R_drew HO151.out)
                    have n3_ := Aside0.mk (below_drew1 HB.out)
                    clear HO_3
                    clear HO_4
                    clear HO151
                    clear HB
                    have HO_3 := n0_
                    have HO_4 := n1_
                    have HO151 := n2_
                    have HB := n3_
                    clear n0_ n1_ n2_ n3_
                    have p154 : 0 ≤ (0 : Int) := (by omega)
                    have q154 : 0 < (t149.length : Int) := of_decide_eq_true (by first | (with_reducible assumption) | assumption)
                    obtain ⟨ad154, e154, hx154_0⟩ := Kd.at_string (Kd.R_reads' HO151.out).2.2 0 p154 q154
                    obtain rfl : ad152 = ad154 := (by injection e154)
                    have qi154 : (0 < t149.length) = True := eq_true (by omega)
                    (try rw [show ((0 : Int)).toNat = 0 from rfl] at hx154_0)
                    (try rw [Addr.add_zero'] at hx154_0)
                    replace p154 := eq_true p154
                    replace q154 := eq_true q154
                    have q20 : (1 : Int) ≤ ((t149.length : Int) : Int) := of_decide_eq_true (by first | (with_reducible assumption) | assumption)
                    obtain ⟨i020, hi020, _, hsz20, _⟩ := info_parts info9
                    have hroom20 : t149.length ≤ co16 := (Kd.R_reads' HO151.out).2.1
                    have hC20 : Kd.F Kd.string _ _ (some ad152) t149.length t149 := (Kd.V_at (base := w.heap.size) (Kd.R_V (Kd.R_apart' (HO151.out) (Kd.N_typed HO_3.out) (by decide)))).2.2
                    have hcut20 := cut_from (P := Tryd.prog) 37 9 .i64 Tryd.underlying37 hi020 1 hsz20 (some ad152) t149.length co16 1 (by omega) q20
                    have hr20 := Kd.F_cut (m := (1 : Int).toNat) (c := co16) hC20 (by omega) hroom20
                    obtain ⟨A20, hA20⟩ : ∃ A1, A1 = (if co16 = (1 : Int).toNat then (some ad152) else ((some ad152) : Option Addr).map (·.add ((1 : Int).toNat * 1))) := ⟨_, rfl⟩
                    obtain ⟨c20, hc20⟩ : ∃ c1, c1 = co16 - (1 : Int).toNat := ⟨_, rfl⟩
                    have hy20 : y156.length = t149.length - (1 : Int).toNat := (by rw [Ny156.out, List.length_drop] <;> omega)
                    rw [show (t149).drop (1 : Int).toNat = y156 from Ny156.out.symm] at hr20
                    replace hr20 : Kd.F Kd.string _ _ A20 y156.length y156 := (by rw [hA20]; exact hr20)
                    rw [← hy20, ← hA20, ← hc20] at hcut20
                    have HO160 := Aside0.mk (show Kd.V Kd.string 9 _ w.heap.size _ (.slice A20 y156.length c20) y156 from Kd.V_mk (by rw [hy20, hc20]; exact Nat.sub_le_sub_right hroom20 _) hr20)
                    have HC160 := Aside0.mk (show y156.length ≤ c20 from by rw [hy20, hc20]; exact Nat.sub_le_sub_right hroom20 _)
                    clear hr20 hC20 hroom20 hi020 hsz20 hc20
                    have KY20 := Aside0.mk hy20
                    have KA20 := Aside0.mk hA20
                    clear hy20 hA20
                    replace q20 := eq_true q20
                    refine start_ (n := 11) (S := fun w' => w'.cell? ad152 = some (.string (rdOf ByteArray.empty t149 0))) (ds := [8, 9]) #[false, false, false, false, false, false, false, false, false, false, false] (by kernel_rfl) rfl rfl (hx154_0) (fun hHeld => ?_); refine with_tabW abatisref15_Parse.tab8 abatisref15_Parse.bits8 (fun HT_ HW_ => ?_)
                    generalize w18.drew = w19 at HO_3 HO_4 HO151 HB HO160 hx154_0 hHeld ⊢
                    refine pure_ (i := 0) (N := some 31) (v := ?_) (a' := ?_) #[true, false, false, false, false, false, false, false, false, false, false] rfl rfl (any_of HT_.out (by kernel_rfl)) (fun _ _ _ h => h) (Or.inl ⟨by rfl, ?_⟩) ?_ ?_
                    rotate_left
                    · intro w'
                      go_simp
                      with_reducible rfl
                    rotate_left
                    · simp only [Act.put, List.setIfInBounds_toArray, List.set_cons_zero, List.set_cons_succ, i64_w, i32_w]
                      rfl
                    refine pure_ (i := 1) (N := some 32) (v := ?_) (a' := ?_) #[true, true, false, false, false, false, false, false, false, false, false] rfl rfl (any_of HT_.out (by kernel_rfl)) (fun _ _ _ h => h) (Or.inl ⟨by rfl, ?_⟩) ?_ ?_
                    rotate_left
                    · intro w'
                      go_simp
                      with_reducible rfl
                    rotate_left
                    · simp only [Act.put, List.setIfInBounds_toArray, List.set_cons_zero, List.set_cons_succ, i64_w, i32_w]
                      rfl
                    refine pure_ (i := 2) (N := some 33) (v := ?_) (a' := ?_) #[true, true, true, false, false, false, false, false, false, false, false] rfl rfl (any_of HT_.out (by kernel_rfl)) (fun _ _ _ h => h) (Or.inl ⟨by rfl, ?_⟩) ?_ ?_
                    rotate_left
                    · intro w'
                      go_simp
                      with_reducible rfl
                    rotate_left
                    · simp only [Act.put, List.setIfInBounds_toArray, List.set_cons_zero, List.set_cons_succ, i64_w, i32_w]
                      rfl
                    refine pure_ (i := 5) (N := some 36) (v := ?_) (a' := ?_) #[true, true, true, false, false, true, false, false, false, false, false] rfl rfl (any_of HT_.out (by kernel_rfl)) (fun _ _ _ h => h) (Or.inl ⟨by rfl, ?_⟩) ?_ ?_
                    rotate_left
                    · intro w'
                      go_simp
                      with_reducible rfl
                    rotate_left
                    · simp only [Act.put, List.setIfInBounds_toArray, List.set_cons_zero, List.set_cons_succ, i64_w, i32_w]
                      rfl
                    refine pure_ (i := 6) (N := some 37) (v := ?_) (a' := ?_) #[true, true, true, false, false, true, true, false, false, false, false] rfl rfl (any_of HT_.out (by kernel_rfl)) (fun _ _ _ h => h) (Or.inl ⟨by rfl, ?_⟩) ?_ ?_
                    rotate_left
                    · intro w'
                      go_simp
                      with_reducible rfl
                    rotate_left
                    · simp only [Act.put, List.setIfInBounds_toArray, List.set_cons_zero, List.set_cons_succ, i64_w, i32_w]
                      rfl
                    refine take_ (i := 3) (N := some 34) (v := ?_) (a' := ?_) #[true, true, true, true, false, true, true, false, false, false, false] rfl rfl (take_ofW HT_.out HW_.out (by kernel_rfl)) (fun _ _ _ h => h) (Or.inl ⟨by rfl, ?_⟩) hHeld ?_ ?_
                    rotate_left
                    · intro w' s0
                      go_simp
                      with_reducible rfl
                    rotate_left
                    · simp only [Act.put, List.setIfInBounds_toArray, List.set_cons_zero, List.set_cons_succ, i64_w, i32_w]
                      rfl
                    refine one_ (i := 4) (N := some 35) #[true, true, true, true, true, true, true, false, false, false, false] rfl rfl (one_of HT_.out (by kernel_rfl)) (by decide) (fun K hK => ?_)
                    refine goes_ Tryd.func51 (by kernel_rfl) rfl #[.string (rdOf ByteArray.empty t149 0)] (by rfl) rfl rfl (by (try simp only [List.map_toArray, List.map_cons, List.map_nil]); first | done | rfl | (simp only [List.length_drop, List.length_take]; rfl)) ?_
                    with_reducible refine (abatisref01_Lower.calls k1 (rdOf ByteArray.empty t149 0) t155 _ A11.out).mono ?_
                    rintro e w21 ⟨rfl, hb⟩
                    have HS0_ := (hb.cell (World.block_lt_of_cell? _ _ (hHeld))).trans (hHeld)
                    refine ⟨_, rfl, ?_⟩
                    have n0_ := Aside0.mk (Kd.N_below (by (with_reducible repeat (first | apply Kd.N_alloc | apply Kd.N_drewN | apply Kd.N_drew)); exact HO_3.out) hb)
                    have n1_ := Aside0.mk (Kd.R_below (by (with_reducible repeat (first | apply Kd.R_alloc | apply Kd.R_drewN | apply Kd.R_drew)); exact HO_4.out) hb)
                    have n2_ := Aside0.mk (Kd.R_below (by (with_reducible repeat (first | apply Kd.R_alloc | apply Kd.R_drewN | apply Kd.R_drew)); exact HO151.out) hb)
                    have n3_ := Aside0.mk (Kd.V_below (by (with_reducible repeat (first | apply Kd.V_alloc | apply Kd.V_drewN | apply Kd.V_drew)); exact HO160.out) hb)
                    have n4_ := Aside0.mk (below_step (by repeat (first | (with_reducible first | exact HB.out | apply below_alloc | apply pw_below_drewN | apply below_drew1) | exact HB.out)) hb)
                    clear HO_3
                    clear HO_4
                    clear HO151
                    clear HO160
                    clear HB
                    have HO_3 := n0_
                    have HO_4 := n1_
                    have HO151 := n2_
                    have HO160 := n3_
                    have HB := n4_
                    clear n0_ n1_ n2_ n3_ n4_
                    (try clear hb)
                    (try clear hb2)
                    (try clear hk)
                    (try clear hi)
                    refine hK.out _ _ (HS0_) (fun hHeld => ?_)
                    clear hK K
                    refine norm_ (a' := ?_) ?_ ?_
                    rotate_left
                    · show Act.put _ (some 35) _ = _
                      simp only [Act.put, List.setIfInBounds_toArray, List.set_cons_zero, List.set_cons_succ, i64_w, i32_w]
                      rfl
                    refine pure_ (i := 7) (N := some 38) (v := ?_) (a' := ?_) #[true, true, true, true, true, true, true, true, false, false, false] rfl rfl (any_of HT_.out (by kernel_rfl)) (fun _ _ _ h => h) (Or.inl ⟨by rfl, ?_⟩) ?_ ?_
                    rotate_left
                    · intro w'
                      go_simp
                      with_reducible rfl
                    rotate_left
                    · simp only [Act.put, List.setIfInBounds_toArray, List.set_cons_zero, List.set_cons_succ, i64_w, i32_w]
                      rfl
                    refine last_ (i := 8) (N := some 39) #[true, true, true, true, true, true, true, true, true, false, false] rfl rfl (one_of HT_.out (by kernel_rfl)) (by decide) (fun K hK => ?_)
                    refine value_ (w1 := ?_) (v := ?_) (by rfl) rfl ?_ ?_
                    rotate_left 2
                    · go_simp
                      constructor
                      · rfl
                      · rfl
                    refine hK.out _ _ ?_
                    clear hK K
                    refine norm_ (a' := ?_) ?_ ?_
                    rotate_left
                    · show Act.put _ (some 39) _ = _
                      simp only [Act.put, List.setIfInBounds_toArray, List.set_cons_zero, List.set_cons_succ, i64_w, i32_w]
                      rfl
                    refine last_ (i := 9) (N := some 40) #[true, true, true, true, true, true, true, true, true, true, false] rfl rfl (one_of HT_.out (by kernel_rfl)) (by decide) (fun K hK => ?_)
                    refine Kd.N_append_step k77 (w0 := w) w.heap.size (by rfl) (.tmp 31) (.tmp 39) 31 77 (.agg #[(.string ⟨#[]⟩), (.slice none 0 0)]) 40 rfl Tryd.underlying31 info77 rfl (by decide) (by omega) (.slice Ao17 x3_1.length co17) x3_1 (⟨t155, y156⟩ : S77) [.string t155, .slice A20 y156.length c20] (fun k_ => (w.heap.size ≤ k_) ∧ some k_ ≠ (.slice (some ad148) t145.length co14 : Value).ownBlock) (fun k_ => ((fun k_ => (w.heap.size ≤ k_) ∧ some k_ ≠ (.slice (some ad148) t145.length co14 : Value).ownBlock)) k_ ∧ some k_ ≠ (.slice Ao17 x3_1.length co17 : Value).ownBlock) rfl rfl ?aP (fun _ hk => hk) ?aF ?aO ?aB ?aS ?aL ?_
                    (case aP => exact (k77_mkF _ _ (⟨t155, y156⟩ : S77) (Kd.V_reads' (Kd.V_mono (ok' := (fun k_ => ((fun k_ => (w.heap.size ≤ k_) ∧ some k_ ≠ (.slice (some ad148) t145.length co14 : Value).ownBlock)) k_ ∧ some k_ ≠ (.slice Ao17 x3_1.length co17 : Value).ownBlock)) (HO160.out) (fun k_ hk => ⟨⟨hk.1.1.1, hk.1.2⟩, hk.2⟩))).2.1 (Kd.V_F (Kd.V_mono (ok' := (fun k_ => ((fun k_ => (w.heap.size ≤ k_) ∧ some k_ ≠ (.slice (some ad148) t145.length co14 : Value).ownBlock)) k_ ∧ some k_ ≠ (.slice Ao17 x3_1.length co17 : Value).ownBlock)) (HO160.out) (fun k_ hk => ⟨⟨hk.1.1.1, hk.1.2⟩, hk.2⟩)))))
                    (case aB => exact (by repeat (first | (with_reducible first | exact HB.out | apply below_alloc | apply pw_below_drewN | apply below_drew1) | exact HB.out)))
                    (case aF => exact (fun k_ hk => ⟨(Nat.le_trans (below_size (by repeat (first | (with_reducible first | exact HB.out | apply below_alloc | apply pw_below_drewN | apply below_drew1) | exact HB.out))) hk), Kd.fresh' (Kd.R_lt (by (with_reducible repeat (first | apply Kd.R_alloc | apply Kd.R_drewN | apply Kd.R_drew)); exact HO_4.out)) k_ hk⟩))
                    (case aO => exact (by (with_reducible repeat (first | apply Kd.N_alloc | apply Kd.N_drewN | apply Kd.N_drew)); exact Kd.N_mono HO_3.out (fun _ hk => ⟨hk.1.1, hk.1.2⟩)))
                    (case aS => exact (below_size (by repeat (first | (with_reducible first | exact HB.out | apply below_alloc | apply pw_below_drewN | apply below_drew1) | exact HB.out))))
                    (case aL => have := LMc13.out; omega)
                    intro v162 w22 ho hb hg hat
                    rw [← Ny161.out] at ho
                    have n0_ := Aside0.mk (Kd.R_over' (by (with_reducible repeat (first | apply Kd.R_alloc | apply Kd.R_drewN | apply Kd.R_drew)); exact HO_4.out) (Kd.N_typed (by (with_reducible repeat (first | apply Kd.N_alloc | apply Kd.N_drewN | apply Kd.N_drew)); exact HO_3.out)) (by decide) hg)
                    have n1_ := Aside0.mk (Kd.R_over' (by (with_reducible repeat (first | apply Kd.R_alloc | apply Kd.R_drewN | apply Kd.R_drew)); exact HO151.out) (Kd.N_typed (by (with_reducible repeat (first | apply Kd.N_alloc | apply Kd.N_drewN | apply Kd.N_drew)); exact HO_3.out)) (by decide) hg)
                    have n2_ := Aside0.mk (Kd.V_afterv (ok := (fun k_ => (w.heap.size ≤ k_) ∧ some k_ ≠ (.slice (some ad148) t145.length co14 : Value).ownBlock)) (by (with_reducible repeat (first | apply Kd.V_alloc | apply Kd.V_drewN | apply Kd.V_drew)); exact Kd.V_mono HO160.out (fun _ hk => ⟨⟨hk.1.1.1, hk.1.2⟩, hk.2⟩)) hg hat)
                    have n3_ := Aside0.mk (hb)
                    have n4_ := Aside0.mk (ho)
                    clear HO_4
                    clear HO151
                    clear HO160
                    clear HB
                    clear HO_3
                    have HO_4 := n0_
                    have HO151 := n1_
                    have HO160 := n2_
                    have HB := n3_
                    have HO163 := n4_
                    clear n0_ n1_ n2_ n3_ n4_
                    clear ho hb hg hat
                    refine hK.out _ _ ?_
                    clear hK K
                    refine norm_ (a' := ?_) ?_ ?_
                    rotate_left
                    · show Act.put _ (some 40) _ = _
                      simp only [Act.put, List.setIfInBounds_toArray, List.set_cons_zero, List.set_cons_succ, i64_w, i32_w]
                      rfl
                    refine pure_ (i := 10) (N := some 3) (v := ?_) (a' := ?_) #[true, true, true, true, true, true, true, true, true, true, true] rfl rfl (any_of HT_.out (by kernel_rfl)) (fun _ _ _ h => h) (Or.inl ⟨by rfl, ?_⟩) ?_ ?_
                    rotate_left
                    · intro w'
                      go_simp
                      with_reducible rfl
                    rotate_left
                    · simp only [Act.put, List.setIfInBounds_toArray, List.set_cons_zero, List.set_cons_succ, i64_w, i32_w]
                      rfl
                    refine done_ (done_of HT_.out (by kernel_rfl)) ?_
                    try go_wp2
                    go_roundg k1
                    case measure => have := HK1.out; omega
                    case rel => exact ⟨(y161), (wrap64 (x5_1 + 1)), (by first | rfl | (simp; done) | (simp [*]; done) | (simp [bne]; done) | (simp [bne, *]; done)), H', ⟨by have := HK1.out; omega⟩, ⟨by (with_reducible repeat (first | apply Kd.N_alloc | apply Kd.N_drewN | apply Kd.N_drew)); exact HO163.out⟩, ⟨by (with_reducible repeat (first | apply Kd.R_alloc | apply Kd.R_drewN | apply Kd.R_drew)); exact Kd.R_mono HO_4.out (fun _ hk => hk.1)⟩, ⟨by repeat (first | (with_reducible first | exact HB.out | apply below_alloc | apply pw_below_drewN | apply below_drew1) | exact HB.out)⟩⟩
                  · rw [if_neg c13] at H
                    exact absurd H (by simp)
                · rw [if_neg c12] at H
                  exact absurd H (by simp)
              · rw [if_neg c10] at H
                have c10b0 : decide (t153 < 0) = false := decide_eq_false c10
                clear c10
                have H' := Aside0.mk H
                clear H
                obtain ⟨Ao23, co23, eo23⟩ := Kd.R_slice HO_4.out
                subst eo23
                have p148 : 0 ≤ (x5_1 : Int) := of_decide_eq_true (by first | (with_reducible assumption) | assumption)
                have q148 : x5_1 < (t145.length : Int) := of_decide_eq_true (by first | (with_reducible assumption) | assumption)
                obtain ⟨ad148, e148, hx148_0⟩ := Kd.at_string (Kd.R_reads' HO_4.out).2.2 x5_1 p148 q148
                cases e148
                replace p148 := eq_true p148
                replace q148 := eq_true q148
                go_wp2_with (first | ((with_reducible refine gate_callee (f := 75) rfl ?_); refine goesL_ (some 19) rfl rfl Tryd.func75 (by kernel_rfl) rfl #[.string (rdOf ByteArray.empty t145 x5_1)] rfl (by (try simp only [List.map_toArray, List.map_cons, List.map_nil]); first | done | rfl | (simp only [List.length_drop, List.length_take]; rfl)) ?_; (with_reducible refine (abatisref15_Words.calls k1 (rdOf ByteArray.empty t145 x5_1) t149 _ A6.out).mono ?_); rintro e w24 ⟨v150, rfl, ho0, hb⟩; refine ⟨_, rfl, ?_⟩; have n0_ := Aside0.mk (Kd.N_elder' (by (with_reducible repeat (first | apply Kd.N_alloc | apply Kd.N_drewN | apply Kd.N_drew)); exact HO_3.out) (Kd.R_base ho0) hb); have n1_ := Aside0.mk (Kd.R_elder' (by (with_reducible repeat (first | apply Kd.R_alloc | apply Kd.R_drewN | apply Kd.R_drew)); exact HO_4.out) (Kd.R_base ho0) hb); have n2_ := Aside0.mk (Kd.R_lower (Kd.R_new' (Kd.R_newM (M := fun k_ => (w.heap.size ≤ k_)) ho0 (below_size (by repeat (first | (with_reducible first | exact HB.out | apply below_alloc | apply pw_below_drewN | apply below_drew1) | exact HB.out))) (fun k_ h_ => h_)) (Kd.R_lt (by (with_reducible repeat (first | apply Kd.R_alloc | apply Kd.R_drewN | apply Kd.R_drew)); exact HO_4.out))) (below_size (by repeat (first | (with_reducible first | exact HB.out | apply below_alloc | apply pw_below_drewN | apply below_drew1) | exact HB.out)))); have n3_ := Aside0.mk (below_step (by repeat (first | (with_reducible first | exact HB.out | apply below_alloc | apply pw_below_drewN | apply below_drew1) | exact HB.out)) hb); clear HO_3; clear HO_4; clear HB; have HO_3 := n0_; have HO_4 := n1_; have HO151 := n2_; have HB := n3_; clear n0_ n1_ n2_ n3_; (try clear hb); (try clear hb2); (try clear hk); (try clear hi); (try clear ho0); obtain ⟨Ao25, co25, eo25⟩ := Kd.R_slice HO151.out; subst eo25; have p152 : 0 ≤ (0 : Int) := (by omega); have q152 : 0 < (t149.length : Int) := of_decide_eq_true (by first | (with_reducible assumption) | assumption); obtain ⟨ad152, e152, hx152_0⟩ := Kd.at_string (Kd.R_reads' HO151.out).2.2 0 p152 q152; cases e152; have qi152 : (0 < t149.length) = True := eq_true (by omega); (try rw [show ((0 : Int)).toNat = 0 from rfl] at hx152_0); (try rw [Addr.add_zero'] at hx152_0); replace p152 := eq_true p152; replace q152 := eq_true q152; obtain ⟨Ao26, co26, eo26⟩ := Kd.N_slice HO_3.out; subst eo26) | (go_at_call 43; (with_reducible refine (abatisref15_find.calls k1 _ _ x3_1 (rdOf ByteArray.empty t149 0) t153 _ ?side1 ?side2 A9.out).mono ?_); (case side1 => repeat (first | exact (Kd.N_reads' HO_3.out).2.2 | (with_reducible refine Kd.C_alloc ?_ _) | (with_reducible refine Kd.C_drewN ?_ _) | (with_reducible refine Kd.C_drew ?_))); (case side2 => exact (Kd.N_reads' HO_3.out).2.1); rintro e w27 ⟨rfl, hb⟩; have n0_ := Aside0.mk (Kd.N_below (by (with_reducible repeat (first | apply Kd.N_alloc | apply Kd.N_drewN | apply Kd.N_drew)); exact HO_3.out) hb); have n1_ := Aside0.mk (Kd.R_below (by (with_reducible repeat (first | apply Kd.R_alloc | apply Kd.R_drewN | apply Kd.R_drew)); exact HO_4.out) hb); have n2_ := Aside0.mk (Kd.R_below (by (with_reducible repeat (first | apply Kd.R_alloc | apply Kd.R_drewN | apply Kd.R_drew)); exact HO151.out) hb); have n3_ := Aside0.mk (below_step (by repeat (first | (with_reducible first | exact HB.out | apply below_alloc | apply pw_below_drewN | apply below_drew1) | exact HB.out)) hb); clear HO_3; clear HO_4; clear HO151; clear HB; have HO_3 := n0_; have HO_4 := n1_; have HO151 := n2_; have HB := n3_; clear n0_ n1_ n2_ n3_; (try clear hb); (try clear hb2); (try clear hk); (try clear hi)))
                go_roundg k1
                case measure => have := HK1.out; omega
                case rel => exact ⟨(x3_1), (wrap64 (x5_1 + 1)), (by first | rfl | (simp; done) | (simp [*]; done) | (simp [bne]; done) | (simp [bne, *]; done)), H', ⟨by have := HK1.out; omega⟩, ⟨by (with_reducible repeat (first | apply Kd.N_alloc | apply Kd.N_drewN | apply Kd.N_drew)); exact Kd.N_mono HO_3.out (fun _ hk => ⟨hk.1.1, hk.1.2⟩)⟩, ⟨by (with_reducible repeat (first | apply Kd.R_alloc | apply Kd.R_drewN | apply Kd.R_drew)); exact Kd.R_mono HO_4.out (fun _ hk => hk.1)⟩, ⟨by repeat (first | (with_reducible first | exact HB.out | apply below_alloc | apply pw_below_drewN | apply below_drew1) | exact HB.out)⟩⟩
            · rw [if_neg c8] at H
              exact absurd H (by simp)
          · rw [if_neg c7] at H
            have c7b0 : decide (0 < (t149.length : Int)) = false := decide_eq_false c7
            have c7b1 : decide (0 < t149.length) = false := decide_eq_false (by omega)
            clear c7
            have H' := Aside0.mk H
            clear H
            obtain ⟨Ao28, co28, eo28⟩ := Kd.R_slice HO_4.out
            subst eo28
            have p148 : 0 ≤ (x5_1 : Int) := of_decide_eq_true (by first | (with_reducible assumption) | assumption)
            have q148 : x5_1 < (t145.length : Int) := of_decide_eq_true (by first | (with_reducible assumption) | assumption)
            obtain ⟨ad148, e148, hx148_0⟩ := Kd.at_string (Kd.R_reads' HO_4.out).2.2 x5_1 p148 q148
            cases e148
            replace p148 := eq_true p148
            replace q148 := eq_true q148
            go_wp2_with (first | ((with_reducible refine gate_callee (f := 75) rfl ?_); refine goesL_ (some 19) rfl rfl Tryd.func75 (by kernel_rfl) rfl #[.string (rdOf ByteArray.empty t145 x5_1)] rfl (by (try simp only [List.map_toArray, List.map_cons, List.map_nil]); first | done | rfl | (simp only [List.length_drop, List.length_take]; rfl)) ?_; (with_reducible refine (abatisref15_Words.calls k1 (rdOf ByteArray.empty t145 x5_1) t149 _ A6.out).mono ?_); rintro e w29 ⟨v150, rfl, ho0, hb⟩; refine ⟨_, rfl, ?_⟩; have n0_ := Aside0.mk (Kd.N_elder' (by (with_reducible repeat (first | apply Kd.N_alloc | apply Kd.N_drewN | apply Kd.N_drew)); exact HO_3.out) (Kd.R_base ho0) hb); have n1_ := Aside0.mk (Kd.R_elder' (by (with_reducible repeat (first | apply Kd.R_alloc | apply Kd.R_drewN | apply Kd.R_drew)); exact HO_4.out) (Kd.R_base ho0) hb); have n2_ := Aside0.mk (Kd.R_lower (Kd.R_new' (Kd.R_newM (M := fun k_ => (w.heap.size ≤ k_)) ho0 (below_size (by repeat (first | (with_reducible first | exact HB.out | apply below_alloc | apply pw_below_drewN | apply below_drew1) | exact HB.out))) (fun k_ h_ => h_)) (Kd.R_lt (by (with_reducible repeat (first | apply Kd.R_alloc | apply Kd.R_drewN | apply Kd.R_drew)); exact HO_4.out))) (below_size (by repeat (first | (with_reducible first | exact HB.out | apply below_alloc | apply pw_below_drewN | apply below_drew1) | exact HB.out)))); have n3_ := Aside0.mk (below_step (by repeat (first | (with_reducible first | exact HB.out | apply below_alloc | apply pw_below_drewN | apply below_drew1) | exact HB.out)) hb); clear HO_3; clear HO_4; clear HB; have HO_3 := n0_; have HO_4 := n1_; have HO151 := n2_; have HB := n3_; clear n0_ n1_ n2_ n3_; (try clear hb); (try clear hb2); (try clear hk); (try clear hi); (try clear ho0); obtain ⟨Ao30, co30, eo30⟩ := Kd.R_slice HO151.out; subst eo30))
            go_roundg k1
            case measure => have := HK1.out; omega
            case rel => exact ⟨(x3_1), (wrap64 (x5_1 + 1)), (by first | rfl | (simp; done) | (simp [*]; done) | (simp [bne]; done) | (simp [bne, *]; done)), H', ⟨by have := HK1.out; omega⟩, ⟨by (with_reducible repeat (first | apply Kd.N_alloc | apply Kd.N_drewN | apply Kd.N_drew)); exact Kd.N_mono HO_3.out (fun _ hk => ⟨hk.1.1, hk.1.2⟩)⟩, ⟨by (with_reducible repeat (first | apply Kd.R_alloc | apply Kd.R_drewN | apply Kd.R_drew)); exact Kd.R_mono HO_4.out (fun _ hk => hk.1)⟩, ⟨by repeat (first | (with_reducible first | exact HB.out | apply below_alloc | apply pw_below_drewN | apply below_drew1) | exact HB.out)⟩⟩
        · rw [if_neg c5] at H
          exact absurd H (by simp)
      · rw [if_neg c4] at H
        have c4b0 : decide (x5_1 < (t145.length : Int)) = false := decide_eq_false c4
        clear c4
        obtain rfl := Option.some.inj H
        obtain ⟨Ao31, co31, eo31⟩ := Kd.R_slice HO_4.out
        subst eo31
        go_wp2
        go_ret
        exact ⟨_, by first | rfl | (simp [errW_none, errW_some] <;> rfl) | (simp [*, errW_none, errW_some] <;> rfl), by (with_reducible repeat (first | apply Kd.N_alloc | apply Kd.N_drewN | apply Kd.N_drew)); exact Kd.N_mono HO_3.out (fun _ hk => hk.1), by repeat (first | (with_reducible first | exact HB.out | apply below_alloc | apply pw_below_drewN | apply below_drew1) | exact HB.out)⟩
-- EXT abatis/abatisref15.Parse {"rounds": 1, "making": 1, "share": [], "rsh": {"0": "N"}, "nm": 1}

/-! ### abatisref14_All: function 73 -/
def abatisref14_All.l0 : Nat → List (S25) → ByteArray → List ByteArray → Int → Option (List ByteArray)
  | 0, _, _, _, _ => none
  | k + 1, x0, x1, x5, x6 => if x6 < (x0.length : Int) then (if 0 ≤ x6 then ((abatisref01_Like.f k ((rd_T25 x0 x6).f0) x1).bind fun t165 => (if t165 = true then (if x5.length < 8796093022208 then (abatisref14_All.l0 k x0 x1 (x5 ++ [(rd_T25 x0 x6).f1]) (wrap64 (x6 + 1))) else (none)) else (abatisref14_All.l0 k x0 x1 x5 (wrap64 (x6 + 1))))) else (none)) else (some x5)
def abatisref14_All.f (k : Nat) (l0 : List (S25)) (a1 : ByteArray) : Option (List ByteArray) := abatisref14_All.l0 k l0 a1 ([] : List ByteArray) 0
theorem abatisref14_All.mono_l : ∀ k, (∀ y0 y1 y2 y3, LeO (abatisref14_All.l0 k y0 y1 y2 y3) (abatisref14_All.l0 (k + 1) y0 y1 y2 y3))
  | 0 => fun _ _ _ _ r h => by simp [abatisref14_All.l0] at h
  | k + 1 => by
    have ih0 := abatisref14_All.mono_l k
    · intro y0 y1 y2 y3
      unfold abatisref14_All.l0
      repeat' first
      | (with_reducible exact ih0 _ _ _ _)
      | (with_reducible exact abatisref01_Like.mono _ _ _)
      | (with_reducible exact LeO.refl _)
      | (with_reducible exact LeO.none _)
      | (with_reducible refine LeO.ite ?_ ?_)
      | (with_reducible refine LeO.bind ?_ (fun _ => ?_))
      | exact ih0 _ _ _ _
      | exact abatisref01_Like.mono _ _ _
      | exact LeO.none _
      | refine LeO.ite ?_ ?_
      | refine LeO.bind ?_ (fun _ => ?_)
theorem abatisref14_All.mono : ∀ a0 a1 k, LeO (abatisref14_All.f k a0 a1) (abatisref14_All.f (k + 1) a0 a1) := by
  intro a0 a1 k
  have ih0 := abatisref14_All.mono_l k
  unfold abatisref14_All.f
  repeat' first
      | (with_reducible exact ih0 _ _ _ _)
      | (with_reducible exact abatisref01_Like.mono _ _ _)
      | (with_reducible exact LeO.refl _)
      | (with_reducible exact LeO.none _)
      | (with_reducible refine LeO.ite ?_ ?_)
      | (with_reducible refine LeO.bind ?_ (fun _ => ?_))
      | exact ih0 _ _ _ _
      | exact abatisref01_Like.mono _ _ _
      | exact LeO.none _
      | refine LeO.ite ?_ ?_
      | refine LeO.bind ?_ (fun _ => ?_)
set_option maxHeartbeats 8000000 in
set_option maxRecDepth 100000 in
theorem abatisref14_All.calls (k : Nat) (A0 : Option Addr) (c0 : Nat) (l0 : List (S25)) (a1 : ByteArray) (r : List ByteArray) (w : World) (hr0 : Kd.C k25 w A0 l0.length l0) (hc0 : l0.length ≤ c0) (h : abatisref14_All.f k l0 a1 = some r) :
    Calls Tryd.prog 73 #[.slice A0 l0.length c0, .string a1] w fun e w' => ∃ v0_ : Value, e = .returned (v0_) ∧ Kd.R Kd.string 9 w' w.heap.size (fun _ => True) v0_ r ∧ Below w.heap.size w w' := by
  have HR0 := Aside0.mk hr0
  have HC0 := Aside0.mk hc0
  clear hr0 hc0
  have HB := Aside0.mk (Below.refl w.heap.size w)
  have H : (abatisref14_All.l0 k l0 a1 ([] : List ByteArray) 0) = some r := h
  clear h
  have H' := Aside0.mk H
  clear H
  go_enter Tryd.func73, Tryd.ntmps73
  go_wp2
  go_loopg [5, 6] k (fun kq v5 v6 w' => ∃ (x5_1 : List ByteArray) (x6_1 : Int), v6 = .int .i64 x6_1 ∧ Aside0 (abatisref14_All.l0 kq l0 a1 x5_1 x6_1 = some r) ∧ Aside0 (kq ≤ k) ∧ Aside0 (Kd.R Kd.string 9 w' w.heap.size (fun _ => True) v5 x5_1) ∧ Aside0 (Below w.heap.size w w'))
  case atStart => exact ⟨(([] : List ByteArray)), (0), (by first | rfl | (simp; done) | (simp [*]; done) | (simp [bne]; done) | (simp [bne, *]; done)), H', ⟨Nat.le_refl _⟩, ⟨by first | exact Kd.R_nil _ _ _ _ _ | exact Kd.N_nil _ _ _ _ _ | exact Kd.V_nil _ _ _ _ _ | exact Kd.Q_nil _ _ _ _ _ | exact Kd.S_nil _ _ _ _ _⟩, ⟨by repeat (first | (with_reducible first | exact HB.out | apply below_alloc | apply pw_below_drewN | apply below_drew1) | exact HB.out)⟩⟩
  case round =>
    clear H'
    try clear p2
    obtain ⟨x5_1, x6_1, rfl, HA, HK1, HO_5, HB⟩ := hrel
    cases gk with
    | zero => exact absurd HA.out (by simp [abatisref14_All.l0])
    | succ k1 =>
      have H := HA.out
      clear HA
      simp only [abatisref14_All.l0] at H
      by_cases c3 : x6_1 < (l0.length : Int)
      · rw [if_pos c3] at H
        have c3b0 : decide (x6_1 < (l0.length : Int)) = true := decide_eq_true c3
        clear c3
        by_cases c4 : 0 ≤ x6_1
        · rw [if_pos c4] at H
          have c4b0 : decide (0 ≤ x6_1) = true := decide_eq_true c4
          clear c4
          replace H := Option.bind_eq_some_iff.mp H
          obtain ⟨t165, A50, H⟩ := H
          replace H : (if t165 = true then (if x5_1.length < 8796093022208 then (abatisref14_All.l0 k1 l0 a1 (x5_1 ++ [(rd_T25 l0 x6_1).f1]) (wrap64 (x6_1 + 1))) else (none)) else (abatisref14_All.l0 k1 l0 a1 x5_1 (wrap64 (x6_1 + 1)))) = some r := H
          have A5 := Aside0.mk A50
          clear A50
          by_cases c6 : t165 = true
          · subst c6
            have H1 : (if x5_1.length < 8796093022208 then (abatisref14_All.l0 k1 l0 a1 (x5_1 ++ [(rd_T25 l0 x6_1).f1]) (wrap64 (x6_1 + 1))) else (none)) = some r := by rw [if_pos rfl] at H; exact H
            clear H
            have H := H1
            clear H1
            by_cases c7 : x5_1.length < 8796093022208
            · rw [if_pos c7] at H
              have LMc7 := Aside0.mk c7
              clear c7
              obtain ⟨y167, hy167⟩ : ∃ y_ : List ByteArray, y_ = (x5_1 ++ [(rd_T25 l0 x6_1).f1]) := ⟨_, rfl⟩
              replace H : (abatisref14_All.l0 k1 l0 a1 y167 (wrap64 (x6_1 + 1))) = some r := by first | (rw [hy167]; with_reducible exact H) | (have H2_ := (Option.bind_some _ _).symm.trans H; rw [hy167]; with_reducible exact H2_) | (have H2_ := (Option.bind_some _ _).symm.trans H; with_reducible exact H2_) | with_reducible exact H | (rw [hy167]; exact H) | exact H
              have Ny167 := Aside0.mk hy167
              clear hy167
              have H' := Aside0.mk H
              clear H
              have p164 : 0 ≤ (x6_1 : Int) := of_decide_eq_true (by first | (with_reducible assumption) | assumption)
              have q164 : x6_1 < (l0.length : Int) := of_decide_eq_true (by first | (with_reducible assumption) | assumption)
              obtain ⟨ad164, e164, hx164_0, hx164_1⟩ := at_T25 HR0.out x6_1 p164 q164
              cases e164
              replace hx164_0 := (HB.out.cell (World.block_lt_of_cell? w _ hx164_0)).trans hx164_0
              replace hx164_1 := (HB.out.cell (World.block_lt_of_cell? w _ hx164_1)).trans hx164_1
              replace p164 := eq_true p164
              replace q164 := eq_true q164
              go_wp2_with (first | ((with_reducible refine gate_callee (f := 81) rfl ?_); refine goesL_ (some 19) rfl rfl Tryd.func81 (by kernel_rfl) rfl #[.string ((rd_T25 l0 x6_1).f0), .string a1] rfl (by (try simp only [List.map_toArray, List.map_cons, List.map_nil]); first | done | rfl | (simp only [List.length_drop, List.length_take]; rfl)) ?_; (with_reducible refine (abatisref01_Like.calls k1 ((rd_T25 l0 x6_1).f0) a1 true _ A5.out).mono ?_); rintro e w8 ⟨rfl, hb⟩; refine ⟨_, rfl, ?_⟩; have n0_ := Aside0.mk (Kd.R_below (by (with_reducible repeat (first | apply Kd.R_alloc | apply Kd.R_drewN | apply Kd.R_drew)); exact HO_5.out) hb); have n1_ := Aside0.mk (below_step (by repeat (first | (with_reducible first | exact HB.out | apply below_alloc | apply pw_below_drewN | apply below_drew1) | exact HB.out)) hb); clear HO_5; clear HB; have HO_5 := n0_; have HB := n1_; clear n0_ n1_; (try clear hb); (try clear hb2); (try clear hk); (try clear hi); have p166 : 0 ≤ (x6_1 : Int) := of_decide_eq_true (by first | (with_reducible assumption) | assumption); have q166 : x6_1 < (l0.length : Int) := of_decide_eq_true (by first | (with_reducible assumption) | assumption); obtain ⟨ad166, e166, hx166_0, hx166_1⟩ := at_T25 HR0.out x6_1 p166 q166; obtain rfl : ad164 = ad166 := (by injection e166); replace hx166_0 := (HB.out.cell (World.block_lt_of_cell? w _ hx166_0)).trans hx166_0; replace hx166_1 := (HB.out.cell (World.block_lt_of_cell? w _ hx166_1)).trans hx166_1; replace p166 := eq_true p166; replace q166 := eq_true q166) | ((with_reducible refine gate_builtin (b := .append) (xs := #[.tmp 20, .tmp 26]) rfl ?_); at_builtin; refine Kd.R_append Kd.string (w0 := w) w.heap.size rfl (.tmp 20) (.tmp 26) 37 9 (.string ⟨#[]⟩) 16 rfl Tryd.underlying37 info9 rfl (by decide) (by omega) u5 x5_1 ((rd_T25 l0 x6_1).f1) [.string ((rd_T25 l0 x6_1).f1)] (fun _ => True) (fun _ => False) rfl rfl ?aP (fun _ hk => hk.elim) ?aF ?aO ?aB ?aS ?aL ?_; (case aP => exact rfl); (case aB => exact (by repeat (first | (with_reducible first | exact HB.out | apply below_alloc | apply pw_below_drewN | apply below_drew1) | exact HB.out))); (case aF => exact (fun _ _ => trivial)); (case aO => exact (by (with_reducible repeat (first | apply Kd.R_alloc | apply Kd.R_drewN | apply Kd.R_drew)); exact HO_5.out)); (case aS => exact (below_size (by repeat (first | (with_reducible first | exact HB.out | apply below_alloc | apply pw_below_drewN | apply below_drew1) | exact HB.out)))); (case aL => have := LMc7.out; omega); intro v168 w9 ho hb hg hat; rw [← Ny167.out] at ho; have n0_ := Aside0.mk (hb); have n1_ := Aside0.mk (ho); clear HB; clear HO_5; have HB := n0_; have HO169 := n1_; clear n0_ n1_; clear ho hb hg hat))
              go_roundg k1
              case measure => have := HK1.out; omega
              case rel => exact ⟨(y167), (wrap64 (x6_1 + 1)), (by first | rfl | (simp; done) | (simp [*]; done) | (simp [bne]; done) | (simp [bne, *]; done)), H', ⟨by have := HK1.out; omega⟩, ⟨by (with_reducible repeat (first | apply Kd.R_alloc | apply Kd.R_drewN | apply Kd.R_drew)); exact HO169.out⟩, ⟨by repeat (first | (with_reducible first | exact HB.out | apply below_alloc | apply pw_below_drewN | apply below_drew1) | exact HB.out)⟩⟩
            · rw [if_neg c7] at H
              exact absurd H (by simp)
          · replace c6 := Bool.eq_false_iff.mpr c6
            subst c6
            have H1 : (abatisref14_All.l0 k1 l0 a1 x5_1 (wrap64 (x6_1 + 1))) = some r := by rw [if_neg (show ¬ (false = true) by decide)] at H; exact H
            clear H
            have H := H1
            clear H1
            have H' := Aside0.mk H
            clear H
            have p164 : 0 ≤ (x6_1 : Int) := of_decide_eq_true (by first | (with_reducible assumption) | assumption)
            have q164 : x6_1 < (l0.length : Int) := of_decide_eq_true (by first | (with_reducible assumption) | assumption)
            obtain ⟨ad164, e164, hx164_0, hx164_1⟩ := at_T25 HR0.out x6_1 p164 q164
            cases e164
            replace hx164_0 := (HB.out.cell (World.block_lt_of_cell? w _ hx164_0)).trans hx164_0
            replace hx164_1 := (HB.out.cell (World.block_lt_of_cell? w _ hx164_1)).trans hx164_1
            replace p164 := eq_true p164
            replace q164 := eq_true q164
            go_wp2_with (first | ((with_reducible refine gate_callee (f := 81) rfl ?_); refine goesL_ (some 19) rfl rfl Tryd.func81 (by kernel_rfl) rfl #[.string ((rd_T25 l0 x6_1).f0), .string a1] rfl (by (try simp only [List.map_toArray, List.map_cons, List.map_nil]); first | done | rfl | (simp only [List.length_drop, List.length_take]; rfl)) ?_; (with_reducible refine (abatisref01_Like.calls k1 ((rd_T25 l0 x6_1).f0) a1 false _ A5.out).mono ?_); rintro e w10 ⟨rfl, hb⟩; refine ⟨_, rfl, ?_⟩; have n0_ := Aside0.mk (Kd.R_below (by (with_reducible repeat (first | apply Kd.R_alloc | apply Kd.R_drewN | apply Kd.R_drew)); exact HO_5.out) hb); have n1_ := Aside0.mk (below_step (by repeat (first | (with_reducible first | exact HB.out | apply below_alloc | apply pw_below_drewN | apply below_drew1) | exact HB.out)) hb); clear HO_5; clear HB; have HO_5 := n0_; have HB := n1_; clear n0_ n1_; (try clear hb); (try clear hb2); (try clear hk); (try clear hi)))
            go_roundg k1
            case measure => have := HK1.out; omega
            case rel => exact ⟨(x5_1), (wrap64 (x6_1 + 1)), (by first | rfl | (simp; done) | (simp [*]; done) | (simp [bne]; done) | (simp [bne, *]; done)), H', ⟨by have := HK1.out; omega⟩, ⟨by (with_reducible repeat (first | apply Kd.R_alloc | apply Kd.R_drewN | apply Kd.R_drew)); exact HO_5.out⟩, ⟨by repeat (first | (with_reducible first | exact HB.out | apply below_alloc | apply pw_below_drewN | apply below_drew1) | exact HB.out)⟩⟩
        · rw [if_neg c4] at H
          exact absurd H (by simp)
      · rw [if_neg c3] at H
        have c3b0 : decide (x6_1 < (l0.length : Int)) = false := decide_eq_false c3
        clear c3
        obtain rfl := Option.some.inj H
        go_wp2
        go_ret
        exact ⟨_, by first | rfl | (simp [errW_none, errW_some] <;> rfl) | (simp [*, errW_none, errW_some] <;> rfl), by (with_reducible repeat (first | apply Kd.R_alloc | apply Kd.R_drewN | apply Kd.R_drew)); exact HO_5.out, by repeat (first | (with_reducible first | exact HB.out | apply below_alloc | apply pw_below_drewN | apply below_drew1) | exact HB.out)⟩
-- EXT abatis/abatisref14.All {"rounds": 1, "making": 1}

/-! ### abatisref14_List: function 37 -/
mutual
def abatisref14_List.l0 : Nat → List ByteArray → List ByteArray → Int → Option (List ByteArray)
  | 0, _, _, _ => none
  | k + 1, x5, x6, x7 => if x7 < (x5.length : Int) then (if 0 ≤ x7 then ((abatisref01_Split.f k (rdOf ByteArray.empty x5 x7) 44).bind fun t174 => (abatisref14_List.l1 k x5 x6 x7 t174 0)) else (none)) else (some x6)
def abatisref14_List.l1 : Nat → List ByteArray → List ByteArray → Int → List ByteArray → Int → Option (List ByteArray)
  | 0, _, _, _, _, _ => none
  | k + 1, x5, x6, x7, x8, x9 => if x9 < (x8.length : Int) then (if 0 ≤ x9 then ((abatisref01_Trim.f k (rdOf ByteArray.empty x8 x9)).bind fun t178 => (if t178.toList = ([] : List UInt8) then (abatisref14_List.l1 k x5 x6 x7 x8 (wrap64 (x9 + 1))) else (if x6.length < 8796093022208 then (abatisref14_List.l1 k x5 (x6 ++ [t178]) x7 x8 (wrap64 (x9 + 1))) else (none)))) else (none)) else (abatisref14_List.l0 k x5 x6 (wrap64 (x7 + 1)))
end
def abatisref14_List.f (k : Nat) (l0 : List (S25)) (a1 : ByteArray) : Option (List ByteArray) := (abatisref14_All.f k l0 a1).bind fun t170 => (abatisref14_List.l0 k t170 ([] : List ByteArray) 0)
theorem abatisref14_List.mono_l : ∀ k, (∀ y0 y1 y2, LeO (abatisref14_List.l0 k y0 y1 y2) (abatisref14_List.l0 (k + 1) y0 y1 y2)) ∧ (∀ y0 y1 y2 y3 y4, LeO (abatisref14_List.l1 k y0 y1 y2 y3 y4) (abatisref14_List.l1 (k + 1) y0 y1 y2 y3 y4))
  | 0 => ⟨fun _ _ _ r h => by simp [abatisref14_List.l0] at h, fun _ _ _ _ _ r h => by simp [abatisref14_List.l1] at h⟩
  | k + 1 => by
    obtain ⟨ih0, ih1⟩ := abatisref14_List.mono_l k
    refine ⟨?_, ?_⟩
    · intro y0 y1 y2
      unfold abatisref14_List.l0
      repeat' first
      | (with_reducible exact ih0 _ _ _)
      | (with_reducible exact ih1 _ _ _ _ _)
      | (with_reducible exact abatisref01_Split.mono _ _ _)
      | (with_reducible exact abatisref01_Trim.mono _ _)
      | (with_reducible exact abatisref14_All.mono _ _ _)
      | (with_reducible exact LeO.refl _)
      | (with_reducible exact LeO.none _)
      | (with_reducible refine LeO.ite ?_ ?_)
      | (with_reducible refine LeO.bind ?_ (fun _ => ?_))
      | exact ih0 _ _ _
      | exact ih1 _ _ _ _ _
      | exact abatisref01_Split.mono _ _ _
      | exact abatisref01_Trim.mono _ _
      | exact abatisref14_All.mono _ _ _
      | exact LeO.none _
      | refine LeO.ite ?_ ?_
      | refine LeO.bind ?_ (fun _ => ?_)
    · intro y0 y1 y2 y3 y4
      unfold abatisref14_List.l1
      repeat' first
      | (with_reducible exact ih0 _ _ _)
      | (with_reducible exact ih1 _ _ _ _ _)
      | (with_reducible exact abatisref01_Split.mono _ _ _)
      | (with_reducible exact abatisref01_Trim.mono _ _)
      | (with_reducible exact abatisref14_All.mono _ _ _)
      | (with_reducible exact LeO.refl _)
      | (with_reducible exact LeO.none _)
      | (with_reducible refine LeO.ite ?_ ?_)
      | (with_reducible refine LeO.bind ?_ (fun _ => ?_))
      | exact ih0 _ _ _
      | exact ih1 _ _ _ _ _
      | exact abatisref01_Split.mono _ _ _
      | exact abatisref01_Trim.mono _ _
      | exact abatisref14_All.mono _ _ _
      | exact LeO.none _
      | refine LeO.ite ?_ ?_
      | refine LeO.bind ?_ (fun _ => ?_)
theorem abatisref14_List.mono : ∀ a0 a1 k, LeO (abatisref14_List.f k a0 a1) (abatisref14_List.f (k + 1) a0 a1) := by
  intro a0 a1 k
  obtain ⟨ih0, ih1⟩ := abatisref14_List.mono_l k
  unfold abatisref14_List.f
  repeat' first
      | (with_reducible exact ih0 _ _ _)
      | (with_reducible exact ih1 _ _ _ _ _)
      | (with_reducible exact abatisref01_Split.mono _ _ _)
      | (with_reducible exact abatisref01_Trim.mono _ _)
      | (with_reducible exact abatisref14_All.mono _ _ _)
      | (with_reducible exact LeO.refl _)
      | (with_reducible exact LeO.none _)
      | (with_reducible refine LeO.ite ?_ ?_)
      | (with_reducible refine LeO.bind ?_ (fun _ => ?_))
      | exact ih0 _ _ _
      | exact ih1 _ _ _ _ _
      | exact abatisref01_Split.mono _ _ _
      | exact abatisref01_Trim.mono _ _
      | exact abatisref14_All.mono _ _ _
      | exact LeO.none _
      | refine LeO.ite ?_ ?_
      | refine LeO.bind ?_ (fun _ => ?_)
set_option maxHeartbeats 8000000 in
set_option maxRecDepth 100000 in
theorem abatisref14_List.calls (k : Nat) (A0 : Option Addr) (c0 : Nat) (l0 : List (S25)) (a1 : ByteArray) (r : List ByteArray) (w : World) (hr0 : Kd.C k25 w A0 l0.length l0) (hc0 : l0.length ≤ c0) (h : abatisref14_List.f k l0 a1 = some r) :
    Calls Tryd.prog 37 #[.slice A0 l0.length c0, .string a1] w fun e w' => ∃ v0_ : Value, e = .returned (v0_) ∧ Kd.R Kd.string 9 w' w.heap.size (fun _ => True) v0_ r ∧ Below w.heap.size w w' := by
  have HR0 := Aside0.mk hr0
  have HC0 := Aside0.mk hc0
  clear hr0 hc0
  have HB := Aside0.mk (Below.refl w.heap.size w)
  have H : ((abatisref14_All.f k l0 a1).bind fun t170 => (abatisref14_List.l0 k t170 ([] : List ByteArray) 0)) = some r := h
  clear h
  replace H := Option.bind_eq_some_iff.mp H
  obtain ⟨t170, A30, H⟩ := H
  replace H : (abatisref14_List.l0 k t170 ([] : List ByteArray) 0) = some r := H
  have A3 := Aside0.mk A30
  clear A30
  have H' := Aside0.mk H
  clear H
  go_enter Tryd.func37, Tryd.ntmps37
  go_wp2_with (first | ((with_reducible refine gate_callee (f := 73) rfl ?_); refine goesL_ (some 13) rfl rfl Tryd.func73 (by kernel_rfl) rfl #[.slice A0 l0.length c0, .string a1] rfl (by (try simp only [List.map_toArray, List.map_cons, List.map_nil]); first | done | rfl | (simp only [List.length_drop, List.length_take]; rfl)) ?_; (with_reducible refine (abatisref14_All.calls k _ _ l0 a1 t170 _ ?side1 ?side2 A3.out).mono ?_); (case side1 => repeat (first | exact HR0.out | (with_reducible refine Kd.C_alloc ?_ _) | (with_reducible refine Kd.C_drewN ?_ _) | (with_reducible refine Kd.C_drew ?_))); (case side2 => exact HC0.out); rintro e w4 ⟨v171, rfl, ho0, hb⟩; refine ⟨_, rfl, ?_⟩; have n0_ := Aside0.mk (Kd.R_lower ho0 (below_size (by repeat (first | (with_reducible first | exact HB.out | apply below_alloc | apply pw_below_drewN | apply below_drew1) | exact HB.out)))); have n1_ := Aside0.mk (below_step (by repeat (first | (with_reducible first | exact HB.out | apply below_alloc | apply pw_below_drewN | apply below_drew1) | exact HB.out)) hb); clear HB; have HO172 := n0_; have HB := n1_; clear n0_ n1_; (try clear hb); (try clear hb2); (try clear hk); (try clear hi); (try clear ho0)))
  go_loopg [6, 7] k (fun kq v6 v7 w' => ∃ (x6_1 : List ByteArray) (x7_1 : Int), v7 = .int .i64 x7_1 ∧ Aside0 (abatisref14_List.l0 kq t170 x6_1 x7_1 = some r) ∧ Aside0 (kq ≤ k) ∧ Aside0 (Kd.R Kd.string 9 w' w.heap.size (fun k_ => some k_ ≠ (v6 : Value).ownBlock) v171 t170) ∧ Aside0 (Kd.R Kd.string 9 w' w.heap.size (fun k_ => some k_ ≠ (v171 : Value).ownBlock) v6 x6_1) ∧ Aside0 (Below w.heap.size w w'))
  case atStart => exact ⟨(([] : List ByteArray)), (0), (by first | rfl | (simp; done) | (simp [*]; done) | (simp [bne]; done) | (simp [bne, *]; done)), H', ⟨Nat.le_refl _⟩, ⟨by (with_reducible repeat (first | apply Kd.R_alloc | apply Kd.R_drewN | apply Kd.R_drew)); exact Kd.R_mono HO172.out (fun _ hk => (by simp [Value.ownBlock]))⟩, ⟨by first | exact Kd.R_nil _ _ _ _ _ | exact Kd.N_nil _ _ _ _ _ | exact Kd.V_nil _ _ _ _ _ | exact Kd.Q_nil _ _ _ _ _ | exact Kd.S_nil _ _ _ _ _⟩, ⟨by repeat (first | (with_reducible first | exact HB.out | apply below_alloc | apply pw_below_drewN | apply below_drew1) | exact HB.out)⟩⟩
  case round =>
    clear H'
    try clear p2
    try clear c3
    obtain ⟨x6_1, x7_1, rfl, HA, HK1, HO_5, HO_6, HB⟩ := hrel
    cases gk with
    | zero => exact absurd HA.out (by simp [abatisref14_List.l0])
    | succ k1 =>
      have H := HA.out
      clear HA
      simp only [abatisref14_List.l0] at H
      by_cases c5 : x7_1 < (t170.length : Int)
      · rw [if_pos c5] at H
        have c5b0 : decide (x7_1 < (t170.length : Int)) = true := decide_eq_true c5
        clear c5
        by_cases c6 : 0 ≤ x7_1
        · rw [if_pos c6] at H
          have c6b0 : decide (0 ≤ x7_1) = true := decide_eq_true c6
          clear c6
          replace H := Option.bind_eq_some_iff.mp H
          obtain ⟨t174, A70, H⟩ := H
          replace H : (abatisref14_List.l1 k1 t170 x6_1 x7_1 t174 0) = some r := H
          have A7 := Aside0.mk A70
          clear A70
          have H' := Aside0.mk H
          clear H
          obtain ⟨Ao8, co8, eo8⟩ := Kd.R_slice HO_5.out
          subst eo8
          have p173 : 0 ≤ (x7_1 : Int) := of_decide_eq_true (by first | (with_reducible assumption) | assumption)
          have q173 : x7_1 < (t170.length : Int) := of_decide_eq_true (by first | (with_reducible assumption) | assumption)
          obtain ⟨ad173, e173, hx173_0⟩ := Kd.at_string (Kd.R_reads' HO_5.out).2.2 x7_1 p173 q173
          cases e173
          replace p173 := eq_true p173
          replace q173 := eq_true q173
          go_wp2_with (first | ((with_reducible refine gate_callee (f := 17) rfl ?_); refine goesL_ (some 24) rfl rfl Tryd.func17 (by kernel_rfl) rfl #[.string (rdOf ByteArray.empty t170 x7_1), .int .u8 44] rfl (by (try simp only [List.map_toArray, List.map_cons, List.map_nil]); first | done | rfl | (simp only [List.length_drop, List.length_take]; rfl)) ?_; (with_reducible refine (abatisref01_Split.calls k1 (rdOf ByteArray.empty t170 x7_1) 44 t174 _ A7.out).mono ?_); rintro e w9 ⟨v175, rfl, ho0, hb⟩; refine ⟨_, rfl, ?_⟩; have n0_ := Aside0.mk (Kd.R_elder' (by (with_reducible repeat (first | apply Kd.R_alloc | apply Kd.R_drewN | apply Kd.R_drew)); exact HO_5.out) (Kd.R_base ho0) hb); have n1_ := Aside0.mk (Kd.R_elder' (by (with_reducible repeat (first | apply Kd.R_alloc | apply Kd.R_drewN | apply Kd.R_drew)); exact HO_6.out) (Kd.R_base ho0) hb); have n2_ := Aside0.mk (Kd.R_lower (Kd.R_new' (Kd.R_new' ho0 (Kd.R_lt (by (with_reducible repeat (first | apply Kd.R_alloc | apply Kd.R_drewN | apply Kd.R_drew)); exact HO_5.out))) (Kd.R_lt (by (with_reducible repeat (first | apply Kd.R_alloc | apply Kd.R_drewN | apply Kd.R_drew)); exact HO_6.out))) (below_size (by repeat (first | (with_reducible first | exact HB.out | apply below_alloc | apply pw_below_drewN | apply below_drew1) | exact HB.out)))); have n3_ := Aside0.mk (below_step (by repeat (first | (with_reducible first | exact HB.out | apply below_alloc | apply pw_below_drewN | apply below_drew1) | exact HB.out)) hb); clear HO_5; clear HO_6; clear HB; have HO_5 := n0_; have HO_6 := n1_; have HO176 := n2_; have HB := n3_; clear n0_ n1_ n2_ n3_; (try clear hb); (try clear hb2); (try clear hk); (try clear hi); (try clear ho0)))
          go_loopg [6, 9] k1 (fun kq v6 v9 w' => ∃ (x6_2 : List ByteArray) (x9_2 : Int), v9 = .int .i64 x9_2 ∧ Aside0 (abatisref14_List.l1 kq t170 x6_2 x7_1 t174 x9_2 = some r) ∧ Aside0 (kq ≤ k1) ∧ Aside0 (Kd.R Kd.string 9 w' w.heap.size (fun k_ => some k_ ≠ (v6 : Value).ownBlock ∧ some k_ ≠ (v175 : Value).ownBlock) (.slice (some ad173) t170.length co8) t170) ∧ Aside0 (Kd.R Kd.string 9 w' w.heap.size (fun k_ => some k_ ≠ ((.slice (some ad173) t170.length co8) : Value).ownBlock ∧ some k_ ≠ (v175 : Value).ownBlock) v6 x6_2) ∧ Aside0 (Kd.R Kd.string 9 w' w.heap.size (fun k_ => some k_ ≠ ((.slice (some ad173) t170.length co8) : Value).ownBlock ∧ some k_ ≠ (v6 : Value).ownBlock) v175 t174) ∧ Aside0 (Below w.heap.size w w'))
          case atStart => exact ⟨(x6_1), (0), (by first | rfl | (simp; done) | (simp [*]; done) | (simp [bne]; done) | (simp [bne, *]; done)), H', ⟨Nat.le_refl _⟩, ⟨by (with_reducible repeat (first | apply Kd.R_alloc | apply Kd.R_drewN | apply Kd.R_drew)); exact HO_5.out⟩, ⟨by (with_reducible repeat (first | apply Kd.R_alloc | apply Kd.R_drewN | apply Kd.R_drew)); exact HO_6.out⟩, ⟨by (with_reducible repeat (first | apply Kd.R_alloc | apply Kd.R_drewN | apply Kd.R_drew)); exact Kd.R_mono HO176.out (fun _ hk => ⟨hk.1.2, hk.2⟩)⟩, ⟨by repeat (first | (with_reducible first | exact HB.out | apply below_alloc | apply pw_below_drewN | apply below_drew1) | exact HB.out)⟩⟩
          case round =>
            clear H'
            try clear c1
            try clear p1
            try clear q1
            try clear hx1
            try clear p2
            try clear c3
            try clear c5
            try clear c5b0
            try clear c6
            try clear c6b0
            try clear c7
            try clear hx173_0
            try clear p173
            try clear p2
            try clear q173
            obtain ⟨x6_2, x9_2, rfl, HA, HK2, HO_5, HO_6, HO_8, HB⟩ := hrel
            cases gk with
            | zero => exact absurd HA.out (by simp [abatisref14_List.l1])
            | succ k2 =>
              have H := HA.out
              clear HA
              simp only [abatisref14_List.l1] at H
              by_cases c10 : x9_2 < (t174.length : Int)
              · rw [if_pos c10] at H
                have c10b0 : decide (x9_2 < (t174.length : Int)) = true := decide_eq_true c10
                clear c10
                by_cases c11 : 0 ≤ x9_2
                · rw [if_pos c11] at H
                  have c11b0 : decide (0 ≤ x9_2) = true := decide_eq_true c11
                  clear c11
                  replace H := Option.bind_eq_some_iff.mp H
                  obtain ⟨t178, A120, H⟩ := H
                  replace H : (if t178.toList = ([] : List UInt8) then (abatisref14_List.l1 k2 t170 x6_2 x7_1 t174 (wrap64 (x9_2 + 1))) else (if x6_2.length < 8796093022208 then (abatisref14_List.l1 k2 t170 (x6_2 ++ [t178]) x7_1 t174 (wrap64 (x9_2 + 1))) else (none))) = some r := H
                  have A12 := Aside0.mk A120
                  clear A120
                  by_cases c13 : t178.toList = ([] : List UInt8)
                  · rw [if_pos c13] at H
                    have c13b0 : (t178.toList == ([] : List UInt8)) = true := beq_iff_eq.mpr c13
                    have c13b1 : (t178.toList != ([] : List UInt8)) = false := bne_eq_false_iff_eq.mpr c13
                    clear c13
                    have H' := Aside0.mk H
                    clear H
                    obtain ⟨Ao14, co14, eo14⟩ := Kd.R_slice HO_8.out
                    subst eo14
                    have p177 : 0 ≤ (x9_2 : Int) := of_decide_eq_true (by first | (with_reducible assumption) | assumption)
                    have q177 : x9_2 < (t174.length : Int) := of_decide_eq_true (by first | (with_reducible assumption) | assumption)
                    obtain ⟨ad177, e177, hx177_0⟩ := Kd.at_string (Kd.R_reads' HO_8.out).2.2 x9_2 p177 q177
                    cases e177
                    replace p177 := eq_true p177
                    replace q177 := eq_true q177
                    go_wp2_with (first | ((with_reducible refine gate_callee (f := 74) rfl ?_); refine goesL_ (some 35) rfl rfl Tryd.func74 (by kernel_rfl) rfl #[.string (rdOf ByteArray.empty t174 x9_2)] rfl (by (try simp only [List.map_toArray, List.map_cons, List.map_nil]); first | done | rfl | (simp only [List.length_drop, List.length_take]; rfl)) ?_; (with_reducible refine (abatisref01_Trim.calls k2 (rdOf ByteArray.empty t174 x9_2) t178 _ A12.out).mono ?_); rintro e w' ⟨rfl, ⟨nd, rfl⟩⟩; refine ⟨_, rfl, ?_⟩))
                    go_roundg k2
                    case measure => have := HK1.out; have := HK2.out; omega
                    case rel => exact ⟨(x6_2), (wrap64 (x9_2 + 1)), (by first | rfl | (simp; done) | (simp [*]; done) | (simp [bne]; done) | (simp [bne, *]; done)), H', ⟨by have := HK1.out; have := HK2.out; omega⟩, ⟨by (with_reducible repeat (first | apply Kd.R_alloc | apply Kd.R_drewN | apply Kd.R_drew)); exact HO_5.out⟩, ⟨by (with_reducible repeat (first | apply Kd.R_alloc | apply Kd.R_drewN | apply Kd.R_drew)); exact HO_6.out⟩, ⟨by (with_reducible repeat (first | apply Kd.R_alloc | apply Kd.R_drewN | apply Kd.R_drew)); exact HO_8.out⟩, ⟨by repeat (first | (with_reducible first | exact HB.out | apply below_alloc | apply pw_below_drewN | apply below_drew1) | exact HB.out)⟩⟩
                  · rw [if_neg c13] at H
                    have c13b0 : (t178.toList == ([] : List UInt8)) = false := beq_eq_false_iff_ne.mpr c13
                    have c13b1 : (t178.toList != ([] : List UInt8)) = true := bne_iff_ne.mpr c13
                    by_cases c15 : x6_2.length < 8796093022208
                    · rw [if_pos c15] at H
                      have LMc15 := Aside0.mk c15
                      clear c15
                      obtain ⟨y179, hy179⟩ : ∃ y_ : List ByteArray, y_ = (x6_2 ++ [t178]) := ⟨_, rfl⟩
                      replace H : (abatisref14_List.l1 k2 t170 y179 x7_1 t174 (wrap64 (x9_2 + 1))) = some r := by first | (rw [hy179]; with_reducible exact H) | (have H2_ := (Option.bind_some _ _).symm.trans H; rw [hy179]; with_reducible exact H2_) | (have H2_ := (Option.bind_some _ _).symm.trans H; with_reducible exact H2_) | with_reducible exact H | (rw [hy179]; exact H) | exact H
                      have Ny179 := Aside0.mk hy179
                      clear hy179
                      have H' := Aside0.mk H
                      clear H
                      obtain ⟨Ao16, co16, eo16⟩ := Kd.R_slice HO_8.out
                      subst eo16
                      have p177 : 0 ≤ (x9_2 : Int) := of_decide_eq_true (by first | (with_reducible assumption) | assumption)
                      have q177 : x9_2 < (t174.length : Int) := of_decide_eq_true (by first | (with_reducible assumption) | assumption)
                      obtain ⟨ad177, e177, hx177_0⟩ := Kd.at_string (Kd.R_reads' HO_8.out).2.2 x9_2 p177 q177
                      cases e177
                      replace p177 := eq_true p177
                      replace q177 := eq_true q177
                      go_wp2_with (first | ((with_reducible refine gate_callee (f := 74) rfl ?_); refine goesL_ (some 35) rfl rfl Tryd.func74 (by kernel_rfl) rfl #[.string (rdOf ByteArray.empty t174 x9_2)] rfl (by (try simp only [List.map_toArray, List.map_cons, List.map_nil]); first | done | rfl | (simp only [List.length_drop, List.length_take]; rfl)) ?_; (with_reducible refine (abatisref01_Trim.calls k2 (rdOf ByteArray.empty t174 x9_2) t178 _ A12.out).mono ?_); rintro e w' ⟨rfl, ⟨nd, rfl⟩⟩; refine ⟨_, rfl, ?_⟩) | ((with_reducible refine gate_builtin (b := .append) (xs := #[.tmp 38, .tmp 40]) rfl ?_); at_builtin; refine Kd.R_append Kd.string (w0 := w) w.heap.size rfl (.tmp 38) (.tmp 40) 37 9 (.string ⟨#[]⟩) 16 rfl Tryd.underlying37 info9 rfl (by decide) (by omega) u6 x6_2 t178 [.string t178] (fun k_ => some k_ ≠ (.slice (some ad173) t170.length co8 : Value).ownBlock ∧ some k_ ≠ (.slice (some ad177) t174.length co16 : Value).ownBlock) (fun _ => False) rfl rfl ?aP (fun _ hk => hk.elim) ?aF ?aO ?aB ?aS ?aL ?_; (case aP => exact rfl); (case aB => exact (by repeat (first | (with_reducible first | exact HB.out | apply below_alloc | apply pw_below_drewN | apply below_drew1) | exact HB.out))); (case aF => exact (fun k_ hk => ⟨Kd.fresh' (Kd.R_lt (by (with_reducible repeat (first | apply Kd.R_alloc | apply Kd.R_drewN | apply Kd.R_drew)); exact HO_5.out)) k_ hk, Kd.fresh' (Kd.R_lt (by (with_reducible repeat (first | apply Kd.R_alloc | apply Kd.R_drewN | apply Kd.R_drew)); exact HO_8.out)) k_ hk⟩)); (case aO => exact (by (with_reducible repeat (first | apply Kd.R_alloc | apply Kd.R_drewN | apply Kd.R_drew)); exact HO_6.out)); (case aS => exact (below_size (by repeat (first | (with_reducible first | exact HB.out | apply below_alloc | apply pw_below_drewN | apply below_drew1) | exact HB.out)))); (case aL => have := LMc15.out; omega); intro v180 w17 ho hb hg hat; rw [← Ny179.out] at ho; have n0_ := Aside0.mk (Kd.R_after (ok := (fun k_ => some k_ ≠ (.slice (some ad177) t174.length co16 : Value).ownBlock)) (by (with_reducible repeat (first | apply Kd.R_alloc | apply Kd.R_drewN | apply Kd.R_drew)); exact Kd.R_mono HO_5.out (fun _ hk => ⟨hk.2, hk.1⟩)) hg hat); have n1_ := Aside0.mk (Kd.R_after (ok := (fun k_ => some k_ ≠ (.slice (some ad173) t170.length co8 : Value).ownBlock)) (by (with_reducible repeat (first | apply Kd.R_alloc | apply Kd.R_drewN | apply Kd.R_drew)); exact HO_8.out) hg hat); have n2_ := Aside0.mk (hb); have n3_ := Aside0.mk (ho); clear HO_5; clear HO_8; clear HB; clear HO_6; have HO_5 := n0_; have HO_8 := n1_; have HB := n2_; have HO181 := n3_; clear n0_ n1_ n2_ n3_; clear ho hb hg hat))
                      go_roundg k2
                      case measure => have := HK1.out; have := HK2.out; omega
                      case rel => exact ⟨(y179), (wrap64 (x9_2 + 1)), (by first | rfl | (simp; done) | (simp [*]; done) | (simp [bne]; done) | (simp [bne, *]; done)), H', ⟨by have := HK1.out; have := HK2.out; omega⟩, ⟨by (with_reducible repeat (first | apply Kd.R_alloc | apply Kd.R_drewN | apply Kd.R_drew)); exact Kd.R_mono HO_5.out (fun _ hk => ⟨hk.2, hk.1⟩)⟩, ⟨by (with_reducible repeat (first | apply Kd.R_alloc | apply Kd.R_drewN | apply Kd.R_drew)); exact HO181.out⟩, ⟨by (with_reducible repeat (first | apply Kd.R_alloc | apply Kd.R_drewN | apply Kd.R_drew)); exact HO_8.out⟩, ⟨by repeat (first | (with_reducible first | exact HB.out | apply below_alloc | apply pw_below_drewN | apply below_drew1) | exact HB.out)⟩⟩
                    · rw [if_neg c15] at H
                      exact absurd H (by simp)
                · rw [if_neg c11] at H
                  exact absurd H (by simp)
              · rw [if_neg c10] at H
                have c10b0 : decide (x9_2 < (t174.length : Int)) = false := decide_eq_false c10
                clear c10
                have H' := Aside0.mk H
                clear H
                obtain ⟨Ao18, co18, eo18⟩ := Kd.R_slice HO_8.out
                subst eo18
                go_wp2
                go_roundg k2
                case measure => have := HK1.out; have := HK2.out; omega
                case rel => exact ⟨(x6_2), (wrap64 (x7_1 + 1)), (by first | rfl | (simp; done) | (simp [*]; done) | (simp [bne]; done) | (simp [bne, *]; done)), H', ⟨by have := HK1.out; have := HK2.out; omega⟩, ⟨by (with_reducible repeat (first | apply Kd.R_alloc | apply Kd.R_drewN | apply Kd.R_drew)); exact Kd.R_mono HO_5.out (fun _ hk => hk.1)⟩, ⟨by (with_reducible repeat (first | apply Kd.R_alloc | apply Kd.R_drewN | apply Kd.R_drew)); exact Kd.R_mono HO_6.out (fun _ hk => hk.1)⟩, ⟨by repeat (first | (with_reducible first | exact HB.out | apply below_alloc | apply pw_below_drewN | apply below_drew1) | exact HB.out)⟩⟩
        · rw [if_neg c6] at H
          exact absurd H (by simp)
      · rw [if_neg c5] at H
        have c5b0 : decide (x7_1 < (t170.length : Int)) = false := decide_eq_false c5
        clear c5
        obtain rfl := Option.some.inj H
        obtain ⟨Ao19, co19, eo19⟩ := Kd.R_slice HO_5.out
        subst eo19
        go_wp2
        go_ret
        exact ⟨_, by first | rfl | (simp [errW_none, errW_some] <;> rfl) | (simp [*, errW_none, errW_some] <;> rfl), by (with_reducible repeat (first | apply Kd.R_alloc | apply Kd.R_drewN | apply Kd.R_drew)); exact Kd.R_mono HO_6.out (fun _ hk => trivial), by repeat (first | (with_reducible first | exact HB.out | apply below_alloc | apply pw_below_drewN | apply below_drew1) | exact HB.out)⟩
-- EXT abatis/abatisref14.List {"rounds": 1, "making": 1}

end Go.Proofs.YthjhbhgfckaklaaDoor.P
