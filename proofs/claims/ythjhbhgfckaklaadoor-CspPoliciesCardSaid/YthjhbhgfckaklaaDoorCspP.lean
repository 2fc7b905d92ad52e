/-
  The contract of csp.Parse: printed of a like function without the map (wip/fake-csp.py), mended by wip/mend-csp.py.
-/
import Derived.Test.YthjhbhgfckaklaaDoorPb
import Derived.Test.YthjhbhgfckaklaaDoorCspS
import Derived.Test.YthjhbhgfckaklaaDoorCspW
import Derived.Test.YthjhbhgfckaklaaDoorPA1
import Derived.Test.YthjhbhgfckaklaaDoorTextB
namespace Go.Proofs.YthjhbhgfckaklaaDoor.P
open Go.RowKit Go.Proofs.YthjhbhgfckaklaaDoorW.PrintWords Go.Proofs.YthjhbhgfckaklaaDoorW.PrintLast Go.Proofs.YthjhbhgfckaklaaDoorW.PrintMore
attribute [local go_sem] max2_int min2_int max_two min_two max_three min_three max_four min_four   -- for this text's walks alone
set_option linter.unusedVariables false
set_option linter.unusedSimpArgs false

/-! ### csp_Parse: function 36 -/
def csp_Parse.l0 : Nat → List (S79) → List ByteArray → Int → Int → Option ((List (S79)))
  | 0, _, _, _, _ => none
  | k + 1, x3, x12, x13, x14 => if x14 < x13 then (if 0 ≤ x14 then (if x14 < (x12.length : Int) then ((csp_Words.f (rdOf ByteArray.empty x12 x14)).bind fun t105 => (if (t105.length : Int) = 0 then (csp_Parse.l0 k x3 x12 x13 (wrap64 (x14 + 1))) else (if 0 < (t105.length : Int) then ((text_Lower.f (rdOf ByteArray.empty t105 0)).bind fun t109 => ((csp_Parse_1.f x3 t109).bind fun t110 => (if t110 = true then (csp_Parse.l0 k x3 x12 x13 (wrap64 (x14 + 1))) else ((text_Lower.f (rdOf ByteArray.empty t105 0)).bind fun t112 => (if 1 ≤ (t105.length : Int) then (if x3.length < 3518437208883 then (csp_Parse.l0 k (x3 ++ [(⟨t112, (t105.drop 1)⟩ : S79)]) x12 x13 (wrap64 (x14 + 1))) else (none)) else (none)))))) else (none)))) else (none)) else (none)) else (some x3)
def csp_Parse.f (k : Nat) (a0 : ByteArray) : Option ((List (S79))) := (text_Split.f k a0 59).bind fun t101 => (csp_Parse.l0 k ([] : List (S79)) t101 (t101.length : Int) 0)
theorem csp_Parse.mono_l : ∀ k, (∀ y0 y1 y2 y3, LeO (csp_Parse.l0 k y0 y1 y2 y3) (csp_Parse.l0 (k + 1) y0 y1 y2 y3))
  | 0 => fun _ _ _ _ r h => by simp [csp_Parse.l0] at h
  | k + 1 => by
    have ih0 := csp_Parse.mono_l k
    · intro y0 y1 y2 y3
      unfold csp_Parse.l0
      repeat' first
      | (with_reducible exact ih0 _ _ _ _)
      | (with_reducible exact text_Split.mono _ _ _)
      | (with_reducible exact LeO.refl _)
      | (with_reducible exact LeO.none _)
      | (with_reducible refine LeO.ite ?_ ?_)
      | (with_reducible refine LeO.bind ?_ (fun _ => ?_))
      | exact ih0 _ _ _ _
      | exact text_Split.mono _ _ _
      | exact LeO.none _
      | refine LeO.ite ?_ ?_
      | refine LeO.bind ?_ (fun _ => ?_)
theorem csp_Parse.mono : ∀ a0 k, LeO (csp_Parse.f k a0) (csp_Parse.f (k + 1) a0) := by
  intro a0 k
  have ih0 := csp_Parse.mono_l k
  unfold csp_Parse.f
  repeat' first
      | (with_reducible exact ih0 _ _ _ _)
      | (with_reducible exact text_Split.mono _ _ _)
      | (with_reducible exact LeO.refl _)
      | (with_reducible exact LeO.none _)
      | (with_reducible refine LeO.ite ?_ ?_)
      | (with_reducible refine LeO.bind ?_ (fun _ => ?_))
      | exact ih0 _ _ _ _
      | exact text_Split.mono _ _ _
      | exact LeO.none _
      | refine LeO.ite ?_ ?_
      | refine LeO.bind ?_ (fun _ => ?_)
def csp_Parse.T9 : Bool × List (List Nat × List Nat) := (true, [([], []), ([], []), ([1], [1]), ([2], [2]), ([3], [3]), ([], []), ([5], [5]), ([4, 6], [4, 6]), ([7], [7]), ([0, 8, 4], [0, 8]), ([9, 9, 0, 1, 2, 3, 4, 5, 6, 7, 8, 9], [0, 9])])
def csp_Parse.B9 : List Nat := [0, 0, 2, 6, 14, 0, 32, 126, 254, 511, 1023]
theorem csp_Parse.tab9 : rtab .any (opsOf Tryd.f36 9) = csp_Parse.T9 := by kernel_rfl
theorem csp_Parse.bits9 : waitsOk csp_Parse.T9.2 csp_Parse.B9 = true := by kernel_rfl
set_option maxHeartbeats 8000000 in
set_option maxRecDepth 100000 in
theorem csp_Parse.calls (k : Nat) (a0 : ByteArray) (r : List (S79)) (wO : World) (h : csp_Parse.f k a0 = some r) :
    Calls Tryd.prog 36 #[.string a0] wO fun e w' => ∃ v0_ : Value, e = .returned (v0_) ∧ Kd.N k79 79 w' wO.heap.size (fun k_ => (wO.heap.size ≤ k_)) v0_ r ∧ Below wO.heap.size wO w' := by
  have hu79 := Tryd.underlying79
  obtain ⟨w, hw, hst0⟩ := seen_start wO
  have HW := Aside0.mk hw
  have HSt := Aside0.mk hst0
  clear hw hst0
  have HB := Aside0.mk (Below.refl w.heap.size w)
  have H : ((text_Split.f k a0 59).bind fun t101 => (csp_Parse.l0 k ([] : List (S79)) t101 (t101.length : Int) 0)) = some r := h
  clear h
  replace H := Option.bind_eq_some_iff.mp H
  obtain ⟨t101, A20, H⟩ := H
  replace H : (csp_Parse.l0 k ([] : List (S79)) t101 (t101.length : Int) 0) = some r := H
  have A2 := Aside0.mk A20
  clear A20
  have H' := Aside0.mk H
  clear H
  have hmk_ := run_makeSeen wO
  go_enter Tryd.func36, Tryd.ntmps36
  go_wp2_with (first | ((with_reducible refine gate_callee (f := 69) rfl ?_); refine goesL_ (some 12) rfl rfl Tryd.func69 (by kernel_rfl) rfl #[.string a0, .int .u8 59] rfl (by (try simp only [List.map_toArray, List.map_cons, List.map_nil]); first | done | rfl | (simp only [List.length_drop, List.length_take]; rfl)) ?_; (with_reducible refine (text_Split.calls k a0 59 t101 _ A2.out).mono ?_); rintro e w3 ⟨v102, rfl, ho0, hb⟩; rw [← HW.out] at ho0 hb; refine ⟨_, rfl, ?_⟩; have n0_ := Aside0.mk (Kd.R_lower (Kd.R_newM (M := fun k_ => (w.heap.size ≤ k_)) ho0 (below_size (by repeat (first | (with_reducible first | exact HB.out | apply below_alloc | apply pw_below_drewN | apply below_drew1) | exact HB.out))) (fun k_ h_ => h_)) (below_size (by repeat (first | (with_reducible first | exact HB.out | apply below_alloc | apply pw_below_drewN | apply below_drew1) | exact HB.out)))); have n1_ := Aside0.mk (below_step (by repeat (first | (with_reducible first | exact HB.out | apply below_alloc | apply pw_below_drewN | apply below_drew1) | exact HB.out)) hb); clear HB; have HO103 := n0_; have HB := n1_; clear n0_ n1_; (try clear hb); (try clear hb2); (try clear hk); (try clear hi); (try clear ho0); obtain ⟨Ao4, co4, eo4⟩ := Kd.R_slice HO103.out; subst eo4))
  go_loopg [3, 14] k (fun kq v3 v14 w' => ∃ (w : World) (x3_1 : List (S79)) (x14_1 : Int), v14 = .int .i64 x14_1 ∧ Aside0 (csp_Parse.l0 kq x3_1 t101 (t101.length : Int) x14_1 = some r) ∧ Aside0 (kq ≤ k) ∧ Aside0 (Kd.N k79 79 w' w.heap.size (fun k_ => (w.heap.size ≤ k_) ∧ some k_ ≠ ((.slice Ao4 t101.length co4) : Value).ownBlock) v3 x3_1) ∧ Aside0 (Kd.R Kd.string 9 w' w.heap.size (fun k_ => (w.heap.size ≤ k_)) (.slice Ao4 t101.length co4) t101) ∧ Aside0 (Below w.heap.size w w') ∧ Aside0 (SeenSt wO w (x3_1.map S79.f0)))
  case atStart => exact ⟨w, (([] : List (S79))), (0), (by first | rfl | (simp; done) | (simp [*]; done) | (simp [bne]; done) | (simp [bne, *]; done)), H', ⟨Nat.le_refl _⟩, ⟨by first | exact Kd.S_nil _ _ _ _ _ | exact Kd.N_nil _ _ _ _ _ | exact Kd.V_nil _ _ _ _ _ | exact Kd.Q_nil _ _ _ _ _ | exact Kd.R_nil _ _ _ _ _⟩, ⟨by (with_reducible repeat (first | apply Kd.R_alloc | apply Kd.R_drewN | apply Kd.R_drew)); exact Kd.R_mono HO103.out (fun _ hk => hk.1)⟩, ⟨by repeat (first | (with_reducible first | exact HB.out | apply below_alloc | apply pw_below_drewN | apply below_drew1) | exact HB.out)⟩, HSt⟩
  case round =>
    clear H'
    try clear p2
    try clear c3
    obtain ⟨w, x3_1, x14_1, rfl, HA, HK1, HO_3, HO_12, HB, HSt⟩ := hrel
    cases gk with
    | zero => exact absurd HA.out (by simp [csp_Parse.l0])
    | succ k1 =>
      have H := HA.out
      clear HA
      simp only [csp_Parse.l0] at H
      by_cases c5 : x14_1 < (t101.length : Int)
      · rw [if_pos c5] at H
        have c5b0 : decide (x14_1 < (t101.length : Int)) = true := decide_eq_true c5
        clear c5
        by_cases c6 : 0 ≤ x14_1
        · rw [if_pos c6] at H
          have c6b0 : decide (0 ≤ x14_1) = true := decide_eq_true c6
          clear c6
          by_cases c7 : x14_1 < (t101.length : Int)
          · rw [if_pos c7] at H
            have c7b0 : decide (x14_1 < (t101.length : Int)) = true := decide_eq_true c7
            clear c7
            replace H := Option.bind_eq_some_iff.mp H
            obtain ⟨t105, A80, H⟩ := H
            replace H : (if (t105.length : Int) = 0 then (csp_Parse.l0 k1 x3_1 t101 (t101.length : Int) (wrap64 (x14_1 + 1))) else (if 0 < (t105.length : Int) then ((text_Lower.f (rdOf ByteArray.empty t105 0)).bind fun t109 => ((csp_Parse_1.f x3_1 t109).bind fun t110 => (if t110 = true then (csp_Parse.l0 k1 x3_1 t101 (t101.length : Int) (wrap64 (x14_1 + 1))) else ((text_Lower.f (rdOf ByteArray.empty t105 0)).bind fun t112 => (if 1 ≤ (t105.length : Int) then (if x3_1.length < 3518437208883 then (csp_Parse.l0 k1 (x3_1 ++ [(⟨t112, (t105.drop 1)⟩ : S79)]) t101 (t101.length : Int) (wrap64 (x14_1 + 1))) else (none)) else (none)))))) else (none))) = some r := H
            have A8 := Aside0.mk A80
            clear A80
            by_cases c9 : (t105.length : Int) = 0
            · rw [if_pos c9] at H
              have c9b0 : ((t105.length : Int) == 0) = true := beq_iff_eq.mpr c9
              have c9b1 : ((t105.length : Int) != 0) = false := bne_eq_false_iff_eq.mpr c9
              clear c9
              have H' := Aside0.mk H
              clear H
              have p104 : 0 ≤ (x14_1 : Int) := of_decide_eq_true (by first | (with_reducible assumption) | assumption)
              have q104 : x14_1 < (t101.length : Int) := of_decide_eq_true (by first | (with_reducible assumption) | assumption)
              obtain ⟨ad104, e104, hx104_0⟩ := Kd.at_string (Kd.R_reads' HO_12.out).2.2 x14_1 p104 q104
              cases e104
              replace p104 := eq_true p104
              replace q104 := eq_true q104
              go_wp2_with (first | ((with_reducible refine gate_callee (f := 71) rfl ?_); refine goesL_ (some 19) rfl rfl Tryd.func71 (by kernel_rfl) rfl #[.string (rdOf ByteArray.empty t101 x14_1)] rfl (by (try simp only [List.map_toArray, List.map_cons, List.map_nil]); first | done | rfl | (simp only [List.length_drop, List.length_take]; rfl)) ?_; (with_reducible refine (csp_Words.calls (rdOf ByteArray.empty t101 x14_1) t105 _ A8.out).mono ?_); rintro e w10 ⟨v106, rfl, ho0, hb⟩; refine ⟨_, rfl, ?_⟩; have n0_ := Aside0.mk (Kd.N_elder' (by (with_reducible repeat (first | apply Kd.N_alloc | apply Kd.N_drewN | apply Kd.N_drew)); exact HO_3.out) (Kd.R_base ho0) hb); have n1_ := Aside0.mk (Kd.R_elder' (by (with_reducible repeat (first | apply Kd.R_alloc | apply Kd.R_drewN | apply Kd.R_drew)); exact HO_12.out) (Kd.R_base ho0) hb); have n2_ := Aside0.mk (Kd.R_lower (Kd.R_new' (Kd.R_newM (M := fun k_ => (w.heap.size ≤ k_)) ho0 (below_size (by repeat (first | (with_reducible first | exact HB.out | apply below_alloc | apply pw_below_drewN | apply below_drew1) | exact HB.out))) (fun k_ h_ => h_)) (Kd.R_lt (by (with_reducible repeat (first | apply Kd.R_alloc | apply Kd.R_drewN | apply Kd.R_drew)); exact HO_12.out))) (below_size (by repeat (first | (with_reducible first | exact HB.out | apply below_alloc | apply pw_below_drewN | apply below_drew1) | exact HB.out)))); have n3_ := Aside0.mk (below_step (by repeat (first | (with_reducible first | exact HB.out | apply below_alloc | apply pw_below_drewN | apply below_drew1) | exact HB.out)) hb); clear HO_3; clear HO_12; clear HB; have HO_3 := n0_; have HO_12 := n1_; have HO107 := n2_; have HB := n3_; clear n0_ n1_ n2_ n3_; (try clear hb); (try clear hb2); (try clear hk); (try clear hi); (try clear ho0); obtain ⟨Ao11, co11, eo11⟩ := Kd.R_slice HO107.out; subst eo11))
              go_roundg k1
              case measure => have := HK1.out; omega
              case rel => exact ⟨w, (x3_1), (wrap64 (x14_1 + 1)), (by first | rfl | (simp; done) | (simp [*]; done) | (simp [bne]; done) | (simp [bne, *]; done)), H', ⟨by have := HK1.out; omega⟩, ⟨by (with_reducible repeat (first | apply Kd.N_alloc | apply Kd.N_drewN | apply Kd.N_drew)); exact Kd.N_mono HO_3.out (fun _ hk => ⟨hk.1.1, hk.1.2⟩)⟩, ⟨by (with_reducible repeat (first | apply Kd.R_alloc | apply Kd.R_drewN | apply Kd.R_drew)); exact Kd.R_mono HO_12.out (fun _ hk => hk.1)⟩, ⟨by repeat (first | (with_reducible first | exact HB.out | apply below_alloc | apply pw_below_drewN | apply below_drew1) | exact HB.out)⟩, HSt⟩
            · rw [if_neg c9] at H
              have c9b0 : ((t105.length : Int) == 0) = false := beq_eq_false_iff_ne.mpr c9
              have c9b1 : ((t105.length : Int) != 0) = true := bne_iff_ne.mpr c9
              have c9b2 : ¬ (t105 = []) := fun h_ => c9 (by rw [h_]; rfl)
              by_cases c12 : 0 < (t105.length : Int)
              · rw [if_pos c12] at H
                have c12b0 : decide (0 < (t105.length : Int)) = true := decide_eq_true c12
                have c12b1 : decide (0 < t105.length) = true := decide_eq_true (by omega)
                clear c12
                replace H := Option.bind_eq_some_iff.mp H
                obtain ⟨t109, A130, H⟩ := H
                replace H : ((csp_Parse_1.f x3_1 t109).bind fun t110 => (if t110 = true then (csp_Parse.l0 k1 x3_1 t101 (t101.length : Int) (wrap64 (x14_1 + 1))) else ((text_Lower.f (rdOf ByteArray.empty t105 0)).bind fun t112 => (if 1 ≤ (t105.length : Int) then (if x3_1.length < 3518437208883 then (csp_Parse.l0 k1 (x3_1 ++ [(⟨t112, (t105.drop 1)⟩ : S79)]) t101 (t101.length : Int) (wrap64 (x14_1 + 1))) else (none)) else (none))))) = some r := H
                have A13 := Aside0.mk A130
                clear A130
                replace H := Option.bind_eq_some_iff.mp H
                obtain ⟨t110, A140, H⟩ := H
                replace H : (if t110 = true then (csp_Parse.l0 k1 x3_1 t101 (t101.length : Int) (wrap64 (x14_1 + 1))) else ((text_Lower.f (rdOf ByteArray.empty t105 0)).bind fun t112 => (if 1 ≤ (t105.length : Int) then (if x3_1.length < 3518437208883 then (csp_Parse.l0 k1 (x3_1 ++ [(⟨t112, (t105.drop 1)⟩ : S79)]) t101 (t101.length : Int) (wrap64 (x14_1 + 1))) else (none)) else (none)))) = some r := H
                have A14 := Aside0.mk A140
                clear A140
                by_cases c15 : t110 = true
                · subst c15
                  have H1 : (csp_Parse.l0 k1 x3_1 t101 (t101.length : Int) (wrap64 (x14_1 + 1))) = some r := by rw [if_pos rfl] at H; exact H
                  clear H
                  have H := H1
                  clear H1
                  have H' := Aside0.mk H
                  clear H
                  have p104 : 0 ≤ (x14_1 : Int) := of_decide_eq_true (by first | (with_reducible assumption) | assumption)
                  have q104 : x14_1 < (t101.length : Int) := of_decide_eq_true (by first | (with_reducible assumption) | assumption)
                  obtain ⟨ad104, e104, hx104_0⟩ := Kd.at_string (Kd.R_reads' HO_12.out).2.2 x14_1 p104 q104
                  cases e104
                  replace p104 := eq_true p104
                  replace q104 := eq_true q104
                  go_wp2_with (first | ((with_reducible refine gate_callee (f := 71) rfl ?_); refine goesL_ (some 19) rfl rfl Tryd.func71 (by kernel_rfl) rfl #[.string (rdOf ByteArray.empty t101 x14_1)] rfl (by (try simp only [List.map_toArray, List.map_cons, List.map_nil]); first | done | rfl | (simp only [List.length_drop, List.length_take]; rfl)) ?_; (with_reducible refine (csp_Words.calls (rdOf ByteArray.empty t101 x14_1) t105 _ A8.out).mono ?_); rintro e w16 ⟨v106, rfl, ho0, hb⟩; refine ⟨_, rfl, ?_⟩; have n0_ := Aside0.mk (Kd.N_elder' (by (with_reducible repeat (first | apply Kd.N_alloc | apply Kd.N_drewN | apply Kd.N_drew)); exact HO_3.out) (Kd.R_base ho0) hb); have n1_ := Aside0.mk (Kd.R_elder' (by (with_reducible repeat (first | apply Kd.R_alloc | apply Kd.R_drewN | apply Kd.R_drew)); exact HO_12.out) (Kd.R_base ho0) hb); have n2_ := Aside0.mk (Kd.R_lower (Kd.R_new' (Kd.R_newM (M := fun k_ => (w.heap.size ≤ k_)) ho0 (below_size (by repeat (first | (with_reducible first | exact HB.out | apply below_alloc | apply pw_below_drewN | apply below_drew1) | exact HB.out))) (fun k_ h_ => h_)) (Kd.R_lt (by (with_reducible repeat (first | apply Kd.R_alloc | apply Kd.R_drewN | apply Kd.R_drew)); exact HO_12.out))) (below_size (by repeat (first | (with_reducible first | exact HB.out | apply below_alloc | apply pw_below_drewN | apply below_drew1) | exact HB.out)))); have n3_ := Aside0.mk (below_step (by repeat (first | (with_reducible first | exact HB.out | apply below_alloc | apply pw_below_drewN | apply below_drew1) | exact HB.out)) hb); clear HO_3; clear HO_12; clear HB; have HO_3 := n0_; have HO_12 := n1_; have HO107 := n2_; have HB := n3_; clear n0_ n1_ n2_ n3_; (try clear hb); (try clear hb2); (try clear hk); (try clear hi); (try clear ho0); obtain ⟨Ao17, co17, eo17⟩ := Kd.R_slice HO107.out; subst eo17; have p108 : 0 ≤ (0 : Int) := (by omega); have q108 : 0 < (t105.length : Int) := of_decide_eq_true (by first | (with_reducible assumption) | assumption); obtain ⟨ad108, e108, hx108_0⟩ := Kd.at_string (Kd.R_reads' HO107.out).2.2 0 p108 q108; cases e108; have qi108 : (0 < t105.length) = True := eq_true (by omega); (try rw [show ((0 : Int)).toNat = 0 from rfl] at hx108_0); (try rw [Addr.add_zero'] at hx108_0); replace p108 := eq_true p108; replace q108 := eq_true q108) | (go_at_call 72; (with_reducible refine (text_Lower.calls (rdOf ByteArray.empty t105 0) t109 _ A13.out).mono ?_); rintro e w18 ⟨rfl, hb⟩; have n0_ := Aside0.mk (Kd.N_below (by (with_reducible repeat (first | apply Kd.N_alloc | apply Kd.N_drewN | apply Kd.N_drew)); exact HO_3.out) hb); have n1_ := Aside0.mk (Kd.R_below (by (with_reducible repeat (first | apply Kd.R_alloc | apply Kd.R_drewN | apply Kd.R_drew)); exact HO_12.out) hb); have n2_ := Aside0.mk (Kd.R_below (by (with_reducible repeat (first | apply Kd.R_alloc | apply Kd.R_drewN | apply Kd.R_drew)); exact HO107.out) hb); have n3_ := Aside0.mk (below_step (by repeat (first | (with_reducible first | exact HB.out | apply below_alloc | apply pw_below_drewN | apply below_drew1) | exact HB.out)) hb); clear HO_3; clear HO_12; clear HO107; clear HB; have HO_3 := n0_; have HO_12 := n1_; have HO107 := n2_; have HB := n3_; clear n0_ n1_ n2_ n3_; (try clear hb); (try clear hb2); (try clear hk); (try clear hi); obtain ⟨Ao19, co19, eo19⟩ := Kd.N_slice HO_3.out; subst eo19) | (go_at_call 70; (with_reducible refine (csp_twice t109 _ (HSt.out.at (by repeat (first | (with_reducible first | exact HB.out | apply below_alloc | apply pw_below_drewN | apply below_drew1) | exact HB.out))) (by omega) (csp_Parse_1.inv A14.out).1 (csp_Parse_1.inv A14.out).2.1).mono ?_); rintro e w20 ⟨he_, hs_, hg_⟩; rw [(csp_Parse_1.inv A14.out).2.2] at he_; subst he_; have zn0_ := twice_N HSt.out (by (with_reducible repeat (first | apply Kd.N_alloc | apply Kd.N_drewN | apply Kd.N_drew)); exact HO_3.out) (fun k_ ho_ => by first | exact ho_ | exact ho_.1 | exact ho_.1.1 | exact ho_.1.1.1 | exact ho_.1.1.1.1) hg_; have zn1_ := twice_R HSt.out (by (with_reducible repeat (first | apply Kd.R_alloc | apply Kd.R_drewN | apply Kd.R_drew)); exact HO_12.out) (fun k_ ho_ => by first | exact ho_ | exact ho_.1 | exact ho_.1.1 | exact ho_.1.1.1 | exact ho_.1.1.1.1) hg_; have zn2_ := twice_R HSt.out (by (with_reducible repeat (first | apply Kd.R_alloc | apply Kd.R_drewN | apply Kd.R_drew)); exact HO107.out) (fun k_ ho_ => by first | exact ho_ | exact ho_.1 | exact ho_.1.1 | exact ho_.1.1.1 | exact ho_.1.1.1.1) hg_; obtain ⟨w, hz_, ht_, hb_⟩ := seen_turn HSt.out (by repeat (first | (with_reducible first | exact HB.out | apply below_alloc | apply pw_below_drewN | apply below_drew1) | exact HB.out)) hg_ hs_; clear hs_ hg_; rw [← hz_] at zn0_; have n0_ := Aside0.mk zn0_; clear zn0_; rw [← hz_] at zn1_; have n1_ := Aside0.mk zn1_; clear zn1_; rw [← hz_] at zn2_; have n2_ := Aside0.mk zn2_; clear zn2_; have n3_ := Aside0.mk hb_; have ns_ := Aside0.mk ht_; clear hb_ ht_ hz_; clear HSt; have HSt := ns_; clear ns_; clear HO_3; clear HO_12; clear HO107; clear HB; have HO_3 := n0_; have HO_12 := n1_; have HO107 := n2_; have HB := n3_; clear n0_ n1_ n2_ n3_; (try clear hb); (try clear hb2); (try clear hk); (try clear hi)))
                  go_roundg k1
                  case measure => have := HK1.out; omega
                  case rel => exact ⟨w, (x3_1), (wrap64 (x14_1 + 1)), (by first | rfl | (simp; done) | (simp [*]; done) | (simp [bne]; done) | (simp [bne, *]; done)), H', ⟨by have := HK1.out; omega⟩, ⟨by (with_reducible repeat (first | apply Kd.N_alloc | apply Kd.N_drewN | apply Kd.N_drew)); exact Kd.N_mono HO_3.out (fun _ hk => ⟨hk.1.1, hk.1.2⟩)⟩, ⟨by (with_reducible repeat (first | apply Kd.R_alloc | apply Kd.R_drewN | apply Kd.R_drew)); exact Kd.R_mono HO_12.out (fun _ hk => hk.1)⟩, ⟨by repeat (first | (with_reducible first | exact HB.out | apply below_alloc | apply pw_below_drewN | apply below_drew1) | exact HB.out)⟩, ⟨by have z_ := HSt.out; unfold addName at z_; rw [if_pos (csp_Parse_1.inv A14.out).2.2] at z_; exact z_⟩⟩
                · replace c15 := Bool.eq_false_iff.mpr c15
                  subst c15
                  have H1 : ((text_Lower.f (rdOf ByteArray.empty t105 0)).bind fun t112 => (if 1 ≤ (t105.length : Int) then (if x3_1.length < 3518437208883 then (csp_Parse.l0 k1 (x3_1 ++ [(⟨t112, (t105.drop 1)⟩ : S79)]) t101 (t101.length : Int) (wrap64 (x14_1 + 1))) else (none)) else (none))) = some r := by rw [if_neg (show ¬ (false = true) by decide)] at H; exact H
                  clear H
                  have H := H1
                  clear H1
                  replace H := Option.bind_eq_some_iff.mp H
                  obtain ⟨t112, A210, H⟩ := H
                  replace H : (if 1 ≤ (t105.length : Int) then (if x3_1.length < 3518437208883 then (csp_Parse.l0 k1 (x3_1 ++ [(⟨t112, (t105.drop 1)⟩ : S79)]) t101 (t101.length : Int) (wrap64 (x14_1 + 1))) else (none)) else (none)) = some r := H
                  have A21 := Aside0.mk A210
                  clear A210
                  by_cases c22 : 1 ≤ (t105.length : Int)
                  · rw [if_pos c22] at H
                    have c22b0 := eq_true c22
                    have c22b1 : decide (1 ≤ (t105.length : Int)) = true := decide_eq_true c22
                    clear c22
                    obtain ⟨y113, hy113⟩ : ∃ y_ : List ByteArray, y_ = (t105.drop 1) := ⟨_, rfl⟩
                    replace H : (if x3_1.length < 3518437208883 then (csp_Parse.l0 k1 (x3_1 ++ [(⟨t112, y113⟩ : S79)]) t101 (t101.length : Int) (wrap64 (x14_1 + 1))) else (none)) = some r := by first | (rw [hy113]; with_reducible exact H) | (have H2_ := (Option.bind_some _ _).symm.trans H; rw [hy113]; with_reducible exact H2_) | (have H2_ := (Option.bind_some _ _).symm.trans H; with_reducible exact H2_) | with_reducible exact H | (rw [hy113]; exact H) | exact H
                    have Ny113 := Aside0.mk hy113
                    clear hy113
                    by_cases c23 : x3_1.length < 3518437208883
                    · rw [if_pos c23] at H
                      have LMc23 := Aside0.mk c23
                      clear c23
                      obtain ⟨y118, hy118⟩ : ∃ y_ : List (S79), y_ = (x3_1 ++ [(⟨t112, y113⟩ : S79)]) := ⟨_, rfl⟩
                      replace H : (csp_Parse.l0 k1 y118 t101 (t101.length : Int) (wrap64 (x14_1 + 1))) = some r := by first | (rw [hy118]; with_reducible exact H) | (have H2_ := (Option.bind_some _ _).symm.trans H; rw [hy118]; with_reducible exact H2_) | (have H2_ := (Option.bind_some _ _).symm.trans H; with_reducible exact H2_) | with_reducible exact H | (rw [hy118]; exact H) | exact H
                      have Ny118 := Aside0.mk hy118
                      clear hy118
                      have H' := Aside0.mk H
                      clear H
                      have p104 : 0 ≤ (x14_1 : Int) := of_decide_eq_true (by first | (with_reducible assumption) | assumption)
                      have q104 : x14_1 < (t101.length : Int) := of_decide_eq_true (by first | (with_reducible assumption) | assumption)
                      obtain ⟨ad104, e104, hx104_0⟩ := Kd.at_string (Kd.R_reads' HO_12.out).2.2 x14_1 p104 q104
                      cases e104
                      replace p104 := eq_true p104
                      replace q104 := eq_true q104
                      try go_wp2_with (first | ((with_reducible refine gate_callee (f := 71) rfl ?_); refine goesL_ (some 19) rfl rfl Tryd.func71 (by kernel_rfl) rfl #[.string (rdOf ByteArray.empty t101 x14_1)] rfl (by (try simp only [List.map_toArray, List.map_cons, List.map_nil]); first | done | rfl | (simp only [List.length_drop, List.length_take]; rfl)) ?_; (with_reducible refine (csp_Words.calls (rdOf ByteArray.empty t101 x14_1) t105 _ A8.out).mono ?_); rintro e w24 ⟨v106, rfl, ho0, hb⟩; refine ⟨_, rfl, ?_⟩; have n0_ := Aside0.mk (Kd.N_elder' (by (with_reducible repeat (first | apply Kd.N_alloc | apply Kd.N_drewN | apply Kd.N_drew)); exact HO_3.out) (Kd.R_base ho0) hb); have n1_ := Aside0.mk (Kd.R_elder' (by (with_reducible repeat (first | apply Kd.R_alloc | apply Kd.R_drewN | apply Kd.R_drew)); exact HO_12.out) (Kd.R_base ho0) hb); have n2_ := Aside0.mk (Kd.R_lower (Kd.R_new' (Kd.R_newM (M := fun k_ => (w.heap.size ≤ k_)) ho0 (below_size (by repeat (first | (with_reducible first | exact HB.out | apply below_alloc | apply pw_below_drewN | apply below_drew1) | exact HB.out))) (fun k_ h_ => h_)) (Kd.R_lt (by (with_reducible repeat (first | apply Kd.R_alloc | apply Kd.R_drewN | apply Kd.R_drew)); exact HO_12.out))) (below_size (by repeat (first | (with_reducible first | exact HB.out | apply below_alloc | apply pw_below_drewN | apply below_drew1) | exact HB.out)))); have n3_ := Aside0.mk (below_step (by repeat (first | (with_reducible first | exact HB.out | apply below_alloc | apply pw_below_drewN | apply below_drew1) | exact HB.out)) hb); clear HO_3; clear HO_12; clear HB; have HO_3 := n0_; have HO_12 := n1_; have HO107 := n2_; have HB := n3_; clear n0_ n1_ n2_ n3_; (try clear hb); (try clear hb2); (try clear hk); (try clear hi); (try clear ho0); obtain ⟨Ao25, co25, eo25⟩ := Kd.R_slice HO107.out; subst eo25; have p108 : 0 ≤ (0 : Int) := (by omega); have q108 : 0 < (t105.length : Int) := of_decide_eq_true (by first | (with_reducible assumption) | assumption); obtain ⟨ad108, e108, hx108_0⟩ := Kd.at_string (Kd.R_reads' HO107.out).2.2 0 p108 q108; cases e108; have qi108 : (0 < t105.length) = True := eq_true (by omega); (try rw [show ((0 : Int)).toNat = 0 from rfl] at hx108_0); (try rw [Addr.add_zero'] at hx108_0); replace p108 := eq_true p108; replace q108 := eq_true q108) | (go_at_call 72; (with_reducible refine (text_Lower.calls (rdOf ByteArray.empty t105 0) t109 _ A13.out).mono ?_); rintro e w26 ⟨rfl, hb⟩; have n0_ := Aside0.mk (Kd.N_below (by (with_reducible repeat (first | apply Kd.N_alloc | apply Kd.N_drewN | apply Kd.N_drew)); exact HO_3.out) hb); have n1_ := Aside0.mk (Kd.R_below (by (with_reducible repeat (first | apply Kd.R_alloc | apply Kd.R_drewN | apply Kd.R_drew)); exact HO_12.out) hb); have n2_ := Aside0.mk (Kd.R_below (by (with_reducible repeat (first | apply Kd.R_alloc | apply Kd.R_drewN | apply Kd.R_drew)); exact HO107.out) hb); have n3_ := Aside0.mk (below_step (by repeat (first | (with_reducible first | exact HB.out | apply below_alloc | apply pw_below_drewN | apply below_drew1) | exact HB.out)) hb); clear HO_3; clear HO_12; clear HO107; clear HB; have HO_3 := n0_; have HO_12 := n1_; have HO107 := n2_; have HB := n3_; clear n0_ n1_ n2_ n3_; (try clear hb); (try clear hb2); (try clear hk); (try clear hi); obtain ⟨Ao27, co27, eo27⟩ := Kd.N_slice HO_3.out; subst eo27) | (go_at_call 70; (with_reducible refine (csp_twice t109 _ (HSt.out.at (by repeat (first | (with_reducible first | exact HB.out | apply below_alloc | apply pw_below_drewN | apply below_drew1) | exact HB.out))) (by omega) (csp_Parse_1.inv A14.out).1 (csp_Parse_1.inv A14.out).2.1).mono ?_); rintro e w28 ⟨he_, hs_, hg_⟩; rw [(csp_Parse_1.inv A14.out).2.2] at he_; subst he_; have zn0_ := twice_N HSt.out (by (with_reducible repeat (first | apply Kd.N_alloc | apply Kd.N_drewN | apply Kd.N_drew)); exact HO_3.out) (fun k_ ho_ => by first | exact ho_ | exact ho_.1 | exact ho_.1.1 | exact ho_.1.1.1 | exact ho_.1.1.1.1) hg_; have zn1_ := twice_R HSt.out (by (with_reducible repeat (first | apply Kd.R_alloc | apply Kd.R_drewN | apply Kd.R_drew)); exact HO_12.out) (fun k_ ho_ => by first | exact ho_ | exact ho_.1 | exact ho_.1.1 | exact ho_.1.1.1 | exact ho_.1.1.1.1) hg_; have zn2_ := twice_R HSt.out (by (with_reducible repeat (first | apply Kd.R_alloc | apply Kd.R_drewN | apply Kd.R_drew)); exact HO107.out) (fun k_ ho_ => by first | exact ho_ | exact ho_.1 | exact ho_.1.1 | exact ho_.1.1.1 | exact ho_.1.1.1.1) hg_; obtain ⟨w, hz_, ht_, hb_⟩ := seen_turn HSt.out (by repeat (first | (with_reducible first | exact HB.out | apply below_alloc | apply pw_below_drewN | apply below_drew1) | exact HB.out)) hg_ hs_; clear hs_ hg_; rw [← hz_] at zn0_; have n0_ := Aside0.mk zn0_; clear zn0_; rw [← hz_] at zn1_; have n1_ := Aside0.mk zn1_; clear zn1_; rw [← hz_] at zn2_; have n2_ := Aside0.mk zn2_; clear zn2_; have n3_ := Aside0.mk hb_; have ns_ := Aside0.mk ht_; clear hb_ ht_ hz_; clear HSt; have HSt := ns_; clear ns_; clear HO_3; clear HO_12; clear HO107; clear HB; have HO_3 := n0_; have HO_12 := n1_; have HO107 := n2_; have HB := n3_; clear n0_ n1_ n2_ n3_; (try clear hb); (try clear hb2); (try clear hk); (try clear hi)))
                      have n0_ := Aside0.mk (Kd.N_drew HO_3.out)
                      have n1_ := Aside0.mk (Kd.R_drew HO_12.out)
                      have n2_ := Aside0.mk (Kd.R_drew HO107.out)
                      have n3_ := Aside0.mk (below_drew1 HB.out)
                      clear HO_3
                      clear HO_12
                      clear HO107
                      clear HB
                      have HO_3 := n0_
                      have HO_12 := n1_
                      have HO107 := n2_
                      have HB := n3_
                      clear n0_ n1_ n2_ n3_
                      have p111 : 0 ≤ (0 : Int) := (by omega)
                      have q111 : 0 < (t105.length : Int) := of_decide_eq_true (by first | (with_reducible assumption) | assumption)
                      obtain ⟨ad111, e111, hx111_0⟩ := Kd.at_string (Kd.R_reads' HO107.out).2.2 0 p111 q111
                      obtain rfl : ad108 = ad111 := (by injection e111)
                      have qi111 : (0 < t105.length) = True := eq_true (by omega)
                      (try rw [show ((0 : Int)).toNat = 0 from rfl] at hx111_0)
                      (try rw [Addr.add_zero'] at hx111_0)
                      replace p111 := eq_true p111
                      replace q111 := eq_true q111
                      have q30 : (1 : Int) ≤ ((t105.length : Int) : Int) := of_decide_eq_true (by first | (with_reducible assumption) | assumption)
                      obtain ⟨i030, hi030, _, hsz30, _⟩ := info_parts info9
                      have hroom30 : t105.length ≤ co25 := (Kd.R_reads' HO107.out).2.1
                      have hC30 : Kd.F Kd.string _ _ (some ad108) t105.length t105 := (Kd.V_at (base := w.heap.size) (Kd.R_V (Kd.R_apart' (HO107.out) (Kd.N_typed HO_3.out) (by decide)))).2.2
                      have hcut30 := cut_from (P := Tryd.prog) 37 9 .i64 Tryd.underlying37 hi030 1 hsz30 (some ad108) t105.length co25 1 (by omega) q30
                      have hr30 := Kd.F_cut (m := (1 : Int).toNat) (c := co25) hC30 (by omega) hroom30
                      obtain ⟨A30, hA30⟩ : ∃ A1, A1 = (if co25 = (1 : Int).toNat then (some ad108) else ((some ad108) : Option Addr).map (·.add ((1 : Int).toNat * 1))) := ⟨_, rfl⟩
                      obtain ⟨c30, hc30⟩ : ∃ c1, c1 = co25 - (1 : Int).toNat := ⟨_, rfl⟩
                      have hy30 : y113.length = t105.length - (1 : Int).toNat := (by rw [Ny113.out, List.length_drop] <;> omega)
                      rw [show (t105).drop (1 : Int).toNat = y113 from Ny113.out.symm] at hr30
                      replace hr30 : Kd.F Kd.string _ _ A30 y113.length y113 := (by rw [hA30]; exact hr30)
                      rw [← hy30, ← hA30, ← hc30] at hcut30
                      have HO117 := Aside0.mk (show Kd.V Kd.string 9 _ w.heap.size _ (.slice A30 y113.length c30) y113 from Kd.V_mk (by rw [hy30, hc30]; exact Nat.sub_le_sub_right hroom30 _) hr30)
                      have HC117 := Aside0.mk (show y113.length ≤ c30 from by rw [hy30, hc30]; exact Nat.sub_le_sub_right hroom30 _)
                      clear hr30 hC30 hroom30 hi030 hsz30 hc30
                      have KY30 := Aside0.mk hy30
                      have KA30 := Aside0.mk hA30
                      clear hy30 hA30
                      replace q30 := eq_true q30
                      refine start_ (n := 11) (S := fun w' => w'.cell? ad108 = some (.string (rdOf ByteArray.empty t105 0))) (ds := [8, 9]) #[false, false, false, false, false, false, false, false, false, false, false] (by kernel_rfl) rfl rfl (hx111_0) (fun hHeld => ?_); refine with_tabW csp_Parse.tab9 csp_Parse.bits9 (fun HT_ HW_ => ?_)
                      generalize w28.drew = w29 at HO_3 HO_12 HO107 HB HO117 hx111_0 hHeld ⊢
                      refine pure_ (i := 0) (N := some 31) (v := ?_) (a' := ?_) #[true, false, false, false, false, false, false, false, false, false, false] rfl rfl (any_of HT_.out (by kernel_rfl)) (fun _ _ _ h => h) (Or.inl ⟨by rfl, ?_⟩) ?_ ?_
                      rotate_left
                      · intro w'
                        go_simp
                        with_reducible rfl
                      rotate_left
                      · simp only [Act.put, List.setIfInBounds_toArray, List.set_cons_zero, List.set_cons_succ, i64_w, i32_w]
                        rfl
                      refine pure_ (i := 1) (N := some 32) (v := ?_) (a' := ?_) #[true, true, false, false, false, false, false, false, false, false, false] rfl rfl (any_of HT_.out (by kernel_rfl)) (fun _ _ _ h => h) (Or.inl ⟨by rfl, ?_⟩) ?_ ?_
                      rotate_left
                      · intro w'
                        go_simp
                        with_reducible rfl
                      rotate_left
                      · simp only [Act.put, List.setIfInBounds_toArray, List.set_cons_zero, List.set_cons_succ, i64_w, i32_w]
                        rfl
                      refine pure_ (i := 2) (N := some 33) (v := ?_) (a' := ?_) #[true, true, true, false, false, false, false, false, false, false, false] rfl rfl (any_of HT_.out (by kernel_rfl)) (fun _ _ _ h => h) (Or.inl ⟨by rfl, ?_⟩) ?_ ?_
                      rotate_left
                      · intro w'
                        go_simp
                        with_reducible rfl
                      rotate_left
                      · simp only [Act.put, List.setIfInBounds_toArray, List.set_cons_zero, List.set_cons_succ, i64_w, i32_w]
                        rfl
                      refine pure_ (i := 5) (N := some 36) (v := ?_) (a' := ?_) #[true, true, true, false, false, true, false, false, false, false, false] rfl rfl (any_of HT_.out (by kernel_rfl)) (fun _ _ _ h => h) (Or.inl ⟨by rfl, ?_⟩) ?_ ?_
                      rotate_left
                      · intro w'
                        go_simp
                        with_reducible rfl
                      rotate_left
                      · simp only [Act.put, List.setIfInBounds_toArray, List.set_cons_zero, List.set_cons_succ, i64_w, i32_w]
                        rfl
                      refine pure_ (i := 6) (N := some 37) (v := ?_) (a' := ?_) #[true, true, true, false, false, true, true, false, false, false, false] rfl rfl (any_of HT_.out (by kernel_rfl)) (fun _ _ _ h => h) (Or.inl ⟨by rfl, ?_⟩) ?_ ?_
                      rotate_left
                      · intro w'
                        go_simp
                        with_reducible rfl
                      rotate_left
                      · simp only [Act.put, List.setIfInBounds_toArray, List.set_cons_zero, List.set_cons_succ, i64_w, i32_w]
                        rfl
                      refine take_ (i := 3) (N := some 34) (v := ?_) (a' := ?_) #[true, true, true, true, false, true, true, false, false, false, false] rfl rfl (take_ofW HT_.out HW_.out (by kernel_rfl)) (fun _ _ _ h => h) (Or.inl ⟨by rfl, ?_⟩) hHeld ?_ ?_
                      rotate_left
                      · intro w' s0
                        go_simp
                        with_reducible rfl
                      rotate_left
                      · simp only [Act.put, List.setIfInBounds_toArray, List.set_cons_zero, List.set_cons_succ, i64_w, i32_w]
                        rfl
                      refine one_ (i := 4) (N := some 35) #[true, true, true, true, true, true, true, false, false, false, false] rfl rfl (one_of HT_.out (by kernel_rfl)) (by decide) (fun K hK => ?_)
                      refine goes_ Tryd.func72 (by kernel_rfl) rfl #[.string (rdOf ByteArray.empty t105 0)] (by rfl) rfl rfl (by (try simp only [List.map_toArray, List.map_cons, List.map_nil]); first | done | rfl | (simp only [List.length_drop, List.length_take]; rfl)) ?_
                      with_reducible refine (text_Lower.calls (rdOf ByteArray.empty t105 0) t112 _ A21.out).mono ?_
                      rintro e w31 ⟨rfl, hb⟩
                      have HS0_ := (hb.cell (World.block_lt_of_cell? _ _ (hHeld))).trans (hHeld)
                      refine ⟨_, rfl, ?_⟩
                      have n0_ := Aside0.mk (Kd.N_below (by (with_reducible repeat (first | apply Kd.N_alloc | apply Kd.N_drewN | apply Kd.N_drew)); exact HO_3.out) hb)
                      have n1_ := Aside0.mk (Kd.R_below (by (with_reducible repeat (first | apply Kd.R_alloc | apply Kd.R_drewN | apply Kd.R_drew)); exact HO_12.out) hb)
                      have n2_ := Aside0.mk (Kd.R_below (by (with_reducible repeat (first | apply Kd.R_alloc | apply Kd.R_drewN | apply Kd.R_drew)); exact HO107.out) hb)
                      have n3_ := Aside0.mk (Kd.V_below (by (with_reducible repeat (first | apply Kd.V_alloc | apply Kd.V_drewN | apply Kd.V_drew)); exact HO117.out) hb)
                      have n4_ := Aside0.mk (below_step (by repeat (first | (with_reducible first | exact HB.out | apply below_alloc | apply pw_below_drewN | apply below_drew1) | exact HB.out)) hb)
                      clear HO_3
                      clear HO_12
                      clear HO107
                      clear HO117
                      clear HB
                      have HO_3 := n0_
                      have HO_12 := n1_
                      have HO107 := n2_
                      have HO117 := n3_
                      have HB := n4_
                      clear n0_ n1_ n2_ n3_ n4_
                      (try clear hb)
                      (try clear hb2)
                      (try clear hk)
                      (try clear hi)
                      refine hK.out _ _ (HS0_) (fun hHeld => ?_)
                      clear hK K
                      refine norm_ (a' := ?_) ?_ ?_
                      rotate_left
                      · show Act.put _ (some 35) _ = _
                        simp only [Act.put, List.setIfInBounds_toArray, List.set_cons_zero, List.set_cons_succ, i64_w, i32_w]
                        rfl
                      refine pure_ (i := 7) (N := some 38) (v := ?_) (a' := ?_) #[true, true, true, true, true, true, true, true, false, false, false] rfl rfl (any_of HT_.out (by kernel_rfl)) (fun _ _ _ h => h) (Or.inl ⟨by rfl, ?_⟩) ?_ ?_
                      rotate_left
                      · intro w'
                        go_simp
                        with_reducible rfl
                      rotate_left
                      · simp only [Act.put, List.setIfInBounds_toArray, List.set_cons_zero, List.set_cons_succ, i64_w, i32_w]
                        rfl
                      refine last_ (i := 8) (N := some 39) #[true, true, true, true, true, true, true, true, true, false, false] rfl rfl (one_of HT_.out (by kernel_rfl)) (by decide) (fun K hK => ?_)
                      refine value_ (w1 := ?_) (v := ?_) (by rfl) rfl ?_ ?_
                      rotate_left 2
                      · go_simp
                        constructor
                        · rfl
                        · rfl
                      refine hK.out _ _ ?_
                      clear hK K
                      refine norm_ (a' := ?_) ?_ ?_
                      rotate_left
                      · show Act.put _ (some 39) _ = _
                        simp only [Act.put, List.setIfInBounds_toArray, List.set_cons_zero, List.set_cons_succ, i64_w, i32_w]
                        rfl
                      refine last_ (i := 9) (N := some 40) #[true, true, true, true, true, true, true, true, true, true, false] rfl rfl (one_of HT_.out (by kernel_rfl)) (by decide) (fun K hK => ?_)
                      refine Kd.N_append_step k79 (w0 := w) w.heap.size (by rfl) (.tmp 31) (.tmp 39) 33 79 (.agg #[(.string ⟨#[]⟩), (.slice none 0 0)]) 40 rfl Tryd.underlying33 info79 rfl (by decide) (by omega) (.slice Ao27 x3_1.length co27) x3_1 (⟨t112, y113⟩ : S79) [.string t112, .slice A30 y113.length c30] (fun k_ => (w.heap.size ≤ k_) ∧ some k_ ≠ (.slice (some ad104) t101.length co4 : Value).ownBlock) (fun k_ => ((fun k_ => (w.heap.size ≤ k_) ∧ some k_ ≠ (.slice (some ad104) t101.length co4 : Value).ownBlock)) k_ ∧ some k_ ≠ (.slice Ao27 x3_1.length co27 : Value).ownBlock) rfl rfl ?aP (fun _ hk => hk) ?aF ?aO ?aB ?aS ?aL ?_
                      (case aP => exact (k79_mkF _ _ (⟨t112, y113⟩ : S79) (Kd.V_reads' (Kd.V_mono (ok' := (fun k_ => ((fun k_ => (w.heap.size ≤ k_) ∧ some k_ ≠ (.slice (some ad104) t101.length co4 : Value).ownBlock)) k_ ∧ some k_ ≠ (.slice Ao27 x3_1.length co27 : Value).ownBlock)) (HO117.out) (fun k_ hk => ⟨⟨hk.1.1.1, hk.1.2⟩, hk.2⟩))).2.1 (Kd.V_F (Kd.V_mono (ok' := (fun k_ => ((fun k_ => (w.heap.size ≤ k_) ∧ some k_ ≠ (.slice (some ad104) t101.length co4 : Value).ownBlock)) k_ ∧ some k_ ≠ (.slice Ao27 x3_1.length co27 : Value).ownBlock)) (HO117.out) (fun k_ hk => ⟨⟨hk.1.1.1, hk.1.2⟩, hk.2⟩)))))
                      (case aB => exact (by repeat (first | (with_reducible first | exact HB.out | apply below_alloc | apply pw_below_drewN | apply below_drew1) | exact HB.out)))
                      (case aF => exact (fun k_ hk => ⟨(Nat.le_trans (below_size (by repeat (first | (with_reducible first | exact HB.out | apply below_alloc | apply pw_below_drewN | apply below_drew1) | exact HB.out))) hk), Kd.fresh' (Kd.R_lt (by (with_reducible repeat (first | apply Kd.R_alloc | apply Kd.R_drewN | apply Kd.R_drew)); exact HO_12.out)) k_ hk⟩))
                      (case aO => exact (by (with_reducible repeat (first | apply Kd.N_alloc | apply Kd.N_drewN | apply Kd.N_drew)); exact Kd.N_mono HO_3.out (fun _ hk => ⟨hk.1.1, hk.1.2⟩)))
                      (case aS => exact (below_size (by repeat (first | (with_reducible first | exact HB.out | apply below_alloc | apply pw_below_drewN | apply below_drew1) | exact HB.out))))
                      (case aL => have := LMc23.out; omega)
                      intro v119 w32 ho hb hg hat
                      rw [← Ny118.out] at ho
                      have n0_ := Aside0.mk (Kd.R_over' (by (with_reducible repeat (first | apply Kd.R_alloc | apply Kd.R_drewN | apply Kd.R_drew)); exact HO_12.out) (Kd.N_typed (by (with_reducible repeat (first | apply Kd.N_alloc | apply Kd.N_drewN | apply Kd.N_drew)); exact HO_3.out)) (by decide) hg)
                      have n1_ := Aside0.mk (Kd.R_over' (by (with_reducible repeat (first | apply Kd.R_alloc | apply Kd.R_drewN | apply Kd.R_drew)); exact HO107.out) (Kd.N_typed (by (with_reducible repeat (first | apply Kd.N_alloc | apply Kd.N_drewN | apply Kd.N_drew)); exact HO_3.out)) (by decide) hg)
                      have n2_ := Aside0.mk (Kd.V_afterv (ok := (fun k_ => (w.heap.size ≤ k_) ∧ some k_ ≠ (.slice (some ad104) t101.length co4 : Value).ownBlock)) (by (with_reducible repeat (first | apply Kd.V_alloc | apply Kd.V_drewN | apply Kd.V_drew)); exact Kd.V_mono HO117.out (fun _ hk => ⟨⟨hk.1.1.1, hk.1.2⟩, hk.2⟩)) hg hat)
                      have n3_ := Aside0.mk (hb)
                      have n4_ := Aside0.mk (ho)
                      clear HO_12
                      clear HO107
                      clear HO117
                      clear HB
                      clear HO_3
                      have HO_12 := n0_
                      have HO107 := n1_
                      have HO117 := n2_
                      have HB := n3_
                      have HO120 := n4_
                      clear n0_ n1_ n2_ n3_ n4_
                      clear ho hb hg hat
                      refine hK.out _ _ ?_
                      clear hK K
                      refine norm_ (a' := ?_) ?_ ?_
                      rotate_left
                      · show Act.put _ (some 40) _ = _
                        simp only [Act.put, List.setIfInBounds_toArray, List.set_cons_zero, List.set_cons_succ, i64_w, i32_w]
                        rfl
                      refine pure_ (i := 10) (N := some 3) (v := ?_) (a' := ?_) #[true, true, true, true, true, true, true, true, true, true, true] rfl rfl (any_of HT_.out (by kernel_rfl)) (fun _ _ _ h => h) (Or.inl ⟨by rfl, ?_⟩) ?_ ?_
                      rotate_left
                      · intro w'
                        go_simp
                        with_reducible rfl
                      rotate_left
                      · simp only [Act.put, List.setIfInBounds_toArray, List.set_cons_zero, List.set_cons_succ, i64_w, i32_w]
                        rfl
                      refine done_ (done_of HT_.out (by kernel_rfl)) ?_
                      try go_wp2
                      go_roundg k1
                      case measure => have := HK1.out; omega
                      case rel => exact ⟨w, (y118), (wrap64 (x14_1 + 1)), (by first | rfl | (simp; done) | (simp [*]; done) | (simp [bne]; done) | (simp [bne, *]; done)), H', ⟨by have := HK1.out; omega⟩, ⟨by (with_reducible repeat (first | apply Kd.N_alloc | apply Kd.N_drewN | apply Kd.N_drew)); exact HO120.out⟩, ⟨by (with_reducible repeat (first | apply Kd.R_alloc | apply Kd.R_drewN | apply Kd.R_drew)); exact Kd.R_mono HO_12.out (fun _ hk => hk.1)⟩, ⟨by repeat (first | (with_reducible first | exact HB.out | apply below_alloc | apply pw_below_drewN | apply below_drew1) | exact HB.out)⟩, ⟨by have z_ := HSt.out; unfold addName at z_; rw [if_neg (by rw [(csp_Parse_1.inv A14.out).2.2]; decide)] at z_; rw [Ny118.out, List.map_append, List.map_cons, List.map_nil]; rw [← show t112 = t109 from Option.some.inj (A21.out.symm.trans A13.out)] at z_; exact z_⟩⟩
                    · rw [if_neg c23] at H
                      exact absurd H (by simp)
                  · rw [if_neg c22] at H
                    exact absurd H (by simp)
              · rw [if_neg c12] at H
                exact absurd H (by simp)
          · rw [if_neg c7] at H
            exact absurd H (by simp)
        · rw [if_neg c6] at H
          exact absurd H (by simp)
      · rw [if_neg c5] at H
        have c5b0 : decide (x14_1 < (t101.length : Int)) = false := decide_eq_false c5
        clear c5
        obtain rfl := Option.some.inj H
        go_wp2
        go_ret
        exact ⟨_, by first | rfl | (simp [errW_none, errW_some] <;> rfl) | (simp [*, errW_none, errW_some] <;> rfl), Kd.N_lower (Kd.N_mono HO_3.out (fun k_ hk => Nat.le_trans (by have := HSt.out.size; omega) hk.1)) (by have := HSt.out.size; omega), HSt.out.below.trans (Below.mono (B := w.heap.size) (by repeat (first | (with_reducible first | exact HB.out | apply below_alloc | apply pw_below_drewN | apply below_drew1) | exact HB.out)) (by have := HSt.out.size; omega))⟩
-- EXT abatis/csp.Parse {"rounds": 1, "making": 1, "share": [], "rsh": {"0": "N"}, "nm": 1}

end Go.Proofs.YthjhbhgfckaklaaDoor.P
