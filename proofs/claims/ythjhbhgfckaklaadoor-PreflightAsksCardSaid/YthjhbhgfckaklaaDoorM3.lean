/-
  Texts of the proof, put together.
-/
import Derived.Test.YthjhbhgfckaklaaDoorM2
section
namespace Go.Proofs.YthjhbhgfckaklaaDoor.P
open Go.RowKit Go.Proofs.YthjhbhgfckaklaaDoorW.PrintWords Go.Proofs.YthjhbhgfckaklaaDoorW.PrintLast Go.Proofs.YthjhbhgfckaklaaDoorW.PrintMore
attribute [local go_sem] max2_int min2_int max_two min_two max_three min_three max_four min_four   -- for this text's walks alone
set_option linter.unusedVariables false
set_option linter.unusedSimpArgs false

/-! ### r02_Print: function 152 -/
def r02_Print.l0 : Nat → Int → ByteArray → Int → Option (ByteArray)
 | 0, _, _, _ => none
 | k + 1, x0, x3, x4 => if x4 < 4 then (if x4 > 0 then (if 1 + x3.size ≤ 9223372036854775807 then ((r01_Decimal.f k (wrap64 (Int.tmod x0 256))).bind fun t128 => (if t128.size + ((⟨#[46]⟩ : ByteArray) ++ x3).size ≤ 9223372036854775807 then (r02_Print.l0 k ((Int.tdiv x0 256) % 4294967296) (t128 ++ ((⟨#[46]⟩ : ByteArray) ++ x3)) (wrap64 (x4 + 1))) else (none))) else (none)) else ((r01_Decimal.f k (wrap64 (Int.tmod x0 256))).bind fun t129 => (if t129.size + x3.size ≤ 9223372036854775807 then (r02_Print.l0 k ((Int.tdiv x0 256) % 4294967296) (t129 ++ x3) (wrap64 (x4 + 1))) else (none)))) else (some x3)
def r02_Print.f (k : Nat) (a0 : Int) : Option (ByteArray) := r02_Print.l0 k a0 (⟨#[]⟩ : ByteArray) 0
set_option maxHeartbeats 8000000 in
set_option maxRecDepth 100000 in
theorem r02_Print.calls (k : Nat) (a0 : Int) (r : ByteArray) (w : World) (h : r02_Print.f k a0 = some r) :
  Calls Tryd.prog 152 #[.int .u32 a0] w fun e w' => e = .returned (.string r) ∧ Below w.heap.size w w' := by
 have HB := Aside0.mk (Below.refl w.heap.size w)
 have H := h
 unfold r02_Print.f at H
 clear h
 have H' := Aside0.mk H
 clear H
 go_enter Tryd.func152, Tryd.ntmps152
 go_wp2
 go_loopg [0, 3, 4] k (fun kq v0 v3 v4 w' => ∃ (x0_1 : Int) (x3_1 : ByteArray) (x4_1 : Int), v0 = .int .u32 x0_1 ∧ v3 = .string x3_1 ∧ v4 = .int .i64 x4_1 ∧ Aside0 (r02_Print.l0 kq x0_1 x3_1 x4_1 = some r) ∧ Aside0 (kq ≤ k) ∧ Aside0 (Below w.heap.size w w'))
 case atStart => exact ⟨(a0), ((⟨#[]⟩ : ByteArray)), (0), (by first | rfl | (simp [bne, *]; done) | (simp; done)), (by first | rfl | (simp [bne, *]; done) | (simp; done)), (by first | rfl | (simp [bne, *]; done) | (simp; done)), H', ⟨Nat.le_refl _⟩, ⟨by repeat (first | (with_reducible first | exact HB.out | apply below_alloc | apply pw_below_drewN | apply below_drew1) | exact HB.out)⟩⟩
 case round =>
  clear H'
  try clear c1
  obtain ⟨x0_1, x3_1, x4_1, rfl, rfl, rfl, HA, HK1, HB⟩ := hrel
  cases gk with
  | zero => exact absurd HA.out (by simp [r02_Print.l0])
  | succ k1 =>
   have H := HA.out
   clear HA
   simp only [r02_Print.l0] at H
   by_cases c2 : x4_1 < 4
   ·rw [if_pos c2] at H
    have c2b0 : decide (x4_1 < 4) = true := decide_eq_true c2
    clear c2
    by_cases c3 : x4_1 > 0
    ·rw [if_pos c3] at H
     have c3b0 : decide (0 < x4_1) = true := decide_eq_true c3
     clear c3
     by_cases c4 : 1 + x3_1.size ≤ 9223372036854775807
     ·rw [if_pos c4] at H
      have c4b0 := eq_true c4
      have c4b1 : decide (1 + x3_1.size ≤ 9223372036854775807) = true := decide_eq_true c4
      try have c4b2 : (9223372036854775807 < 1 + x3_1.size) = False := eq_false (Nat.not_lt.2 c4)
      replace H := Option.bind_eq_some_iff.mp H
      obtain ⟨t128, A50, H⟩ := H
      try dsimp only at H
      have A5 := Aside0.mk A50
      clear A50
      by_cases c6 : t128.size + ((⟨#[46]⟩ : ByteArray) ++ x3_1).size ≤ 9223372036854775807
      ·rw [if_pos c6] at H
       have c6b0 := eq_true c6
       have c6b1 : decide (t128.size + ((⟨#[46]⟩ : ByteArray) ++ x3_1).size ≤ 9223372036854775807) = true := decide_eq_true c6
       try have c6b2 : (9223372036854775807 < t128.size + ((⟨#[46]⟩ : ByteArray) ++ x3_1).size) = False := eq_false (Nat.not_lt.2 c6)
       try (have c6b4 := c6b2; simp only [ByteArray.size_append, show (⟨#[46]⟩ : ByteArray).size = 1 from rfl] at c6b4)
       have H' := Aside0.mk H
       clear H
       go_wp2_with (first | ((with_reducible refine gate_callee (f := 30) rfl ?_); refine goesL_ (some 16) rfl rfl Tryd.func30 (by kernel_rfl) rfl #[.int .i64 (wrap64 (Int.tmod x0_1 256))] rfl (by (try simp only [List.map_toArray, List.map_cons, List.map_nil]); first | done | rfl) ?_; (with_reducible refine (r01_Decimal.calls k1 (wrap64 (Int.tmod x0_1 256)) t128 _ A5.out).mono ?_); rintro e w7 ⟨rfl, hb⟩; refine ⟨_, rfl, ?_⟩; replace HB := Aside0.mk (below_step (bel_later HB.out) hb); (try clear hb); (try clear hb2); (try clear hk); (try clear hi)))
       go_roundg k1
       case measure => have := HK1.out; omega
       case rel => exact ⟨((Int.tdiv x0_1 256) % 4294967296), (t128 ++ ((⟨#[46]⟩ : ByteArray) ++ x3_1)), (wrap64 (x4_1 + 1)), (by first | rfl | (simp [bne, *]; done) | (simp; done)), (by first | rfl | (simp [bne, *]; done) | (simp; done)), (by first | rfl | (simp [bne, *]; done) | (simp; done)), H', ⟨by have := HK1.out; omega⟩, ⟨by repeat (first | (with_reducible first | exact HB.out | apply below_alloc | apply pw_below_drewN | apply below_drew1) | exact HB.out)⟩⟩
      rw [if_neg c6] at H
      exact absurd H (by simp)
     rw [if_neg c4] at H
     exact absurd H (by simp)
    rw [if_neg c3] at H
    have c3b0 : decide (0 < x4_1) = false := decide_eq_false c3
    clear c3
    replace H := Option.bind_eq_some_iff.mp H
    obtain ⟨t129, A80, H⟩ := H
    try dsimp only at H
    have A8 := Aside0.mk A80
    clear A80
    by_cases c9 : t129.size + x3_1.size ≤ 9223372036854775807
    ·rw [if_pos c9] at H
     have c9b0 := eq_true c9
     have c9b1 : decide (t129.size + x3_1.size ≤ 9223372036854775807) = true := decide_eq_true c9
     try have c9b2 : (9223372036854775807 < t129.size + x3_1.size) = False := eq_false (Nat.not_lt.2 c9)
     have H' := Aside0.mk H
     clear H
     go_wp2_with (first | ((with_reducible refine gate_callee (f := 30) rfl ?_); refine goesL_ (some 16) rfl rfl Tryd.func30 (by kernel_rfl) rfl #[.int .i64 (wrap64 (Int.tmod x0_1 256))] rfl (by (try simp only [List.map_toArray, List.map_cons, List.map_nil]); first | done | rfl) ?_; (with_reducible refine (r01_Decimal.calls k1 (wrap64 (Int.tmod x0_1 256)) t129 _ A8.out).mono ?_); rintro e w10 ⟨rfl, hb⟩; refine ⟨_, rfl, ?_⟩; replace HB := Aside0.mk (below_step (bel_later HB.out) hb); (try clear hb); (try clear hb2); (try clear hk); (try clear hi)))
     go_roundg k1
     case measure => have := HK1.out; omega
     case rel => exact ⟨((Int.tdiv x0_1 256) % 4294967296), (t129 ++ x3_1), (wrap64 (x4_1 + 1)), (by first | rfl | (simp [bne, *]; done) | (simp; done)), (by first | rfl | (simp [bne, *]; done) | (simp; done)), (by first | rfl | (simp [bne, *]; done) | (simp; done)), H', ⟨by have := HK1.out; omega⟩, ⟨by repeat (first | (with_reducible first | exact HB.out | apply below_alloc | apply pw_below_drewN | apply below_drew1) | exact HB.out)⟩⟩
    rw [if_neg c9] at H
    exact absurd H (by simp)
   rw [if_neg c2] at H
   have c2b0 : decide (x4_1 < 4) = false := decide_eq_false c2
   clear c2
   obtain rfl := Option.some.inj H
   go_wp2
   go_ret
   exact ⟨by first | rfl | (simp [errW_none, errW_some] <;> rfl) | (simp [*, errW_none, errW_some] <;> rfl), by repeat (first | (with_reducible first | exact HB.out | apply below_alloc | apply pw_below_drewN | apply below_drew1) | exact HB.out)⟩

/-! ### r03_hex: function 180 -/
def r03_hex.f (k : Nat) (a0 : ByteArray) : Option (Int) := (r01_Number.f k a0 16).bind fun bt130 => (if bt130.2 = true then (if (a0.size : Int) > 4 then (some (-1)) else (some bt130.1)) else (some (-1)))
set_option maxHeartbeats 8000000 in
set_option maxRecDepth 100000 in
theorem r03_hex.calls (k : Nat) (a0 : ByteArray) (r : Int) (w : World) (h : r03_hex.f k a0 = some r) :
  Calls Tryd.prog 180 #[.string a0] w fun e w' => e = .returned (.int .i64 r) ∧ Drawn0 w w' := by
 have H := h
 unfold r03_hex.f at H
 clear h
 replace H := Option.bind_eq_some_iff.mp H
 obtain ⟨⟨t130, t131⟩, A20, H⟩ := H
 try dsimp only at H
 have A2 := Aside0.mk A20
 clear A20
 by_cases c3 : t131 = true
 ·subst c3
  have H1 : (if (a0.size : Int) > 4 then (some (-1)) else (some t130)) = some r := by rw [if_pos rfl] at H; exact H
  clear H
  have H := H1
  clear H1
  by_cases c4 : (a0.size : Int) > 4
  ·rw [if_pos c4] at H
   have c4b0 : decide (4 < (a0.size : Int)) = true := decide_eq_true c4
   have c4b1 : decide (4 < a0.size) = true := decide_eq_true (by omega)
   clear c4
   obtain rfl := Option.some.inj H
   go_enter Tryd.func180, Tryd.ntmps180
   go_wp2_with (first | ((with_reducible refine gate_callee (f := 133) rfl ?_); refine goesL_ (some 7) rfl rfl Tryd.func133 (by kernel_rfl) rfl #[.string a0, .int .i64 16] rfl (by (try simp only [List.map_toArray, List.map_cons, List.map_nil]); first | done | rfl) ?_; (with_reducible refine (r01_Number.calls k a0 16 t130 true _ A2.out).mono ?_); rintro e w' ⟨rfl, ⟨nd, rfl⟩⟩; refine ⟨_, rfl, ?_⟩))
   go_ret
   exact ⟨by first | rfl | (simp [bne, *]; done) | (simp; done), by repeat (first | exact Drawn0.refl _ | apply Drawn0.step)⟩
  rw [if_neg c4] at H
  have c4b0 : decide (4 < (a0.size : Int)) = false := decide_eq_false c4
  have c4b1 : decide (4 < a0.size) = false := decide_eq_false (by omega)
  clear c4
  obtain rfl := Option.some.inj H
  go_enter Tryd.func180, Tryd.ntmps180
  go_wp2_with (first | ((with_reducible refine gate_callee (f := 133) rfl ?_); refine goesL_ (some 7) rfl rfl Tryd.func133 (by kernel_rfl) rfl #[.string a0, .int .i64 16] rfl (by (try simp only [List.map_toArray, List.map_cons, List.map_nil]); first | done | rfl) ?_; (with_reducible refine (r01_Number.calls k a0 16 t130 true _ A2.out).mono ?_); rintro e w' ⟨rfl, ⟨nd, rfl⟩⟩; refine ⟨_, rfl, ?_⟩))
  go_ret
  exact ⟨by first | rfl | (simp [bne, *]; done) | (simp; done), by repeat (first | exact Drawn0.refl _ | apply Drawn0.step)⟩
 replace c3 := Bool.eq_false_iff.mpr c3
 subst c3
 have H1 : (some (-1)) = some r := by rw [if_neg (show ¬ (false = true) by decide)] at H; exact H
 clear H
 have H := H1
 clear H1
 obtain rfl := Option.some.inj H
 go_enter Tryd.func180, Tryd.ntmps180
 go_wp2_with (first | ((with_reducible refine gate_callee (f := 133) rfl ?_); refine goesL_ (some 7) rfl rfl Tryd.func133 (by kernel_rfl) rfl #[.string a0, .int .i64 16] rfl (by (try simp only [List.map_toArray, List.map_cons, List.map_nil]); first | done | rfl) ?_; (with_reducible refine (r01_Number.calls k a0 16 t130 false _ A2.out).mono ?_); rintro e w' ⟨rfl, ⟨nd, rfl⟩⟩; refine ⟨_, rfl, ?_⟩))
 go_ret
 exact ⟨by first | rfl | (simp [bne, *]; done) | (simp; done), by repeat (first | exact Drawn0.refl _ | apply Drawn0.step)⟩

/-! ### r03_Groups: function 173 -/
def r03_Groups.l0 : Nat → Bool → List Int → List ByteArray → Int → Option (List Int × Bool)
 | 0, _, _, _, _ => none
 | k + 1, x1, x6, x7, x8 => if x8 < (x7.length : Int) then (if 0 ≤ x8 then ((r03_hex.f k (rdOf ByteArray.empty x7 x8)).bind fun t136 => (if t136 ≥ 0 then (if x6.length < 17592186044416 then (r03_Groups.l0 k x1 (x6 ++ [t136]) x7 (wrap64 (x8 + 1))) else (none)) else ((r02_Strict.f k (rdOf ByteArray.empty x7 x8)).bind fun bt141 => (if bt141.2 = true then (if x1 = true then (if (wrap64 (x8 + 1)) < (x7.length : Int) then (some (([] : List Int), false)) else ((some (([wrap64 (Int.tdiv (wrap64 (bt141.1)) 65536), Int.tmod (wrap64 (bt141.1)) 65536] : List Int) : List Int)).bind fun y143 => (if x6.length + y143.length < 17592186044416 then (r03_Groups.l0 k x1 (x6 ++ y143) x7 (wrap64 (x8 + 1))) else (none)))) else (some (([] : List Int), false))) else (some (([] : List Int), false)))))) else (none)) else (some (x6, true))
def r03_Groups.f (k : Nat) (a0 : ByteArray) (a1 : Bool) : Option (List Int × Bool) := if a0.toList = ([] : List UInt8) then (some (([] : List Int), true)) else ((r01_Split.f k a0 58).bind fun t132 => (r03_Groups.l0 k a1 ([] : List Int) t132 0))
set_option maxHeartbeats 8000000 in
set_option maxRecDepth 100000 in
theorem r03_Groups.calls (k : Nat) (a0 : ByteArray) (a1 : Bool) (r1 : List Int) (r2 : Bool) (w : World) (h : r03_Groups.f k a0 a1 = some (r1, r2)) :
  Calls Tryd.prog 173 #[.string a0, .bool a1] w fun e w' => ∃ v0_ : Value, e = .returned (.tuple #[v0_, .bool r2]) ∧ Kd.R (Kd.int .i64) 3 w' w.heap.size (fun _ => True) v0_ r1 ∧ Below w.heap.size w w' := by
 have HB := Aside0.mk (Below.refl w.heap.size w)
 have H := h
 unfold r03_Groups.f at H
 clear h
 by_cases c3 : a0.toList = ([] : List UInt8)
 ·rw [if_pos c3] at H
  have c3b0 : (a0.toList == ([] : List UInt8)) = true := beq_iff_eq.mpr c3
  have c3b1 : (a0.toList != ([] : List UInt8)) = false := bne_eq_false_iff_eq.mpr c3
  clear c3
  simp only [Option.some.injEq, Prod.mk.injEq] at H
  obtain ⟨rfl, rfl⟩ := H
  go_enter Tryd.func173, Tryd.ntmps173
  go_wp2
  go_ret2
  exact ⟨_, by first | rfl | (simp [errW_none, errW_some] <;> rfl) | (simp [*, errW_none, errW_some] <;> rfl), by first | exact Kd.R_nil _ _ _ _ _ | exact Kd.N_nil _ _ _ _ _ | exact Kd.V_nil _ _ _ _ _ | exact Kd.Q_nil _ _ _ _ _ | exact Kd.S_nil _ _ _ _ _, by repeat (first | (with_reducible first | exact HB.out | apply below_alloc | apply pw_below_drewN | apply below_drew1) | exact HB.out)⟩
 rw [if_neg c3] at H
 have c3b0 : (a0.toList == ([] : List UInt8)) = false := beq_eq_false_iff_ne.mpr c3
 have c3b1 : (a0.toList != ([] : List UInt8)) = true := bne_iff_ne.mpr c3
 replace H := Option.bind_eq_some_iff.mp H
 obtain ⟨t132, A40, H⟩ := H
 try dsimp only at H
 have A4 := Aside0.mk A40
 clear A40
 have H' := Aside0.mk H
 clear H
 go_enter Tryd.func173, Tryd.ntmps173
 go_wp2_with (first | ((with_reducible refine gate_callee (f := 17) rfl ?_); refine goesL_ (some 16) rfl rfl Tryd.func17 (by kernel_rfl) rfl #[.string a0, .int .u8 58] rfl (by (try simp only [List.map_toArray, List.map_cons, List.map_nil]); first | done | rfl) ?_; (with_reducible refine (r01_Split.calls k a0 58 t132 _ A4.out).mono ?_); rintro e w5 ⟨v133, rfl, ho0, hb⟩; refine ⟨_, rfl, ?_⟩; have HO134 := Aside0.mk (Kd.R_lower ho0 (below_size (bel_later HB.out))); replace HB := Aside0.mk (below_step (bel_later HB.out) hb); (try clear hb); (try clear hb2); (try clear hk); (try clear hi); (try clear ho0)))
 go_loopg [6, 8] k (fun kq v6 v8 w' => ∃ (x6_1 : List Int) (x8_1 : Int), v8 = .int .i64 x8_1 ∧ Aside0 (r03_Groups.l0 kq a1 x6_1 t132 x8_1 = some (r1, r2)) ∧ Aside0 (kq ≤ k) ∧ Aside0 (Kd.R (Kd.int .i64) 3 w' w.heap.size (fun _ => True) v6 x6_1) ∧ Aside0 (Kd.R Kd.string 9 w' w.heap.size (fun _ => True) v133 t132) ∧ Aside0 (Below w.heap.size w w'))
 case atStart => exact ⟨(([] : List Int)), (0), (by first | rfl | (simp [bne, *]; done) | (simp; done)), H', ⟨Nat.le_refl _⟩, ⟨by first | exact Kd.R_nil _ _ _ _ _ | exact Kd.N_nil _ _ _ _ _ | exact Kd.V_nil _ _ _ _ _ | exact Kd.Q_nil _ _ _ _ _ | exact Kd.S_nil _ _ _ _ _⟩, ⟨by (with_reducible repeat (first | apply Kd.R_alloc | apply Kd.R_drewN | apply Kd.R_drew)); exact HO134.out⟩, ⟨by repeat (first | (with_reducible first | exact HB.out | apply below_alloc | apply pw_below_drewN | apply below_drew1) | exact HB.out)⟩⟩
 case round =>
  clear H'
  try clear c1
  try clear p2
  try clear c3
  try clear c3b0
  try clear c3b1
  obtain ⟨x6_1, x8_1, rfl, HA, HK1, HO_6, HO_7, HB⟩ := hrel
  cases gk with
  | zero => exact absurd HA.out (by simp [r03_Groups.l0])
  | succ k1 =>
   have H := HA.out
   clear HA
   simp only [r03_Groups.l0] at H
   by_cases c6 : x8_1 < (t132.length : Int)
   ·rw [if_pos c6] at H
    have c6b0 : decide (x8_1 < (t132.length : Int)) = true := decide_eq_true c6
    clear c6
    by_cases c7 : 0 ≤ x8_1
    ·rw [if_pos c7] at H
     have c7b0 : decide (0 ≤ x8_1) = true := decide_eq_true c7
     clear c7
     replace H := Option.bind_eq_some_iff.mp H
     obtain ⟨t136, A80, H⟩ := H
     try dsimp only at H
     have A8 := Aside0.mk A80
     clear A80
     by_cases c9 : t136 ≥ 0
     ·rw [if_pos c9] at H
      have c9b0 : decide (0 ≤ t136) = true := decide_eq_true c9
      clear c9
      by_cases c10 : x6_1.length < 17592186044416
      ·rw [if_pos c10] at H
       have LMc10 := Aside0.mk c10
       clear c10
       obtain ⟨y137, hy137⟩ : ∃ y_ : List Int, y_ = (x6_1 ++ [t136]) := ⟨_, rfl⟩
       replace H : (r03_Groups.l0 k1 a1 y137 t132 (wrap64 (x8_1 + 1))) = some (r1, r2) := by first | (rw [hy137]; with_reducible exact H) | (have H2_ := (Option.bind_some _ _).symm.trans H; rw [hy137]; with_reducible exact H2_) | (have H2_ := (Option.bind_some _ _).symm.trans H; with_reducible exact H2_) | with_reducible exact H | (rw [hy137]; exact H) | exact H
       have Ny137 := Aside0.mk hy137
       clear hy137
       have H' := Aside0.mk H
       clear H
       obtain ⟨Ao11, co11, eo11⟩ := Kd.R_slice HO_7.out
       subst eo11
       have p135 : 0 ≤ (x8_1 : Int) := of_decide_eq_true (by first | (with_reducible assumption) | assumption)
       have q135 : x8_1 < (t132.length : Int) := of_decide_eq_true (by first | (with_reducible assumption) | assumption)
       obtain ⟨ad135, e135, hx135_0⟩ := Kd.at_string (Kd.R_reads' HO_7.out).2.2 x8_1 p135 q135
       cases e135
       replace p135 := eq_true p135
       replace q135 := eq_true q135
       go_wp2_with (first | ((with_reducible refine gate_callee (f := 180) rfl ?_); refine goesL_ (some 27) rfl rfl Tryd.func180 (by kernel_rfl) rfl #[.string (rdOf ByteArray.empty t132 x8_1)] rfl (by (try simp only [List.map_toArray, List.map_cons, List.map_nil]); first | done | rfl) ?_; (with_reducible refine (r03_hex.calls k1 (rdOf ByteArray.empty t132 x8_1) t136 _ A8.out).mono ?_); rintro e w' ⟨rfl, ⟨nd, rfl⟩⟩; refine ⟨_, rfl, ?_⟩) | ((with_reducible refine gate_builtin (b := .append) (xs := #[.tmp 30, .tmp 32]) rfl ?_); (try (refine gate_guard (by rfl) ?_; dsimp only)); at_builtin; refine Kd.R_append (Kd.int .i64) (w0 := w) w.heap.size rfl (.tmp 30) (.tmp 32) 197 3 (.int .i64 0) 8 rfl Tryd.underlying197 info3 rfl (by decide) (by omega) u6 x6_1 t136 [.int .i64 t136] (fun _ => True) (fun _ => False) rfl rfl ?aP (fun _ hk => hk.elim) ?aF ?aO ?aB ?aS ?aL ?_; (case aP => exact rfl); (case aB => exact (bel_later HB.out)); (case aF => exact (fun _ _ => trivial)); (case aO => exact (R_later HO_6.out)); (case aS => exact (below_size (bel_later HB.out))); (case aL => have := LMc10.out; omega); intro v138 w12 ho hb hg hat; rw [← Ny137.out] at ho; have HO139 := Aside0.mk (ho); replace HO_7 := Aside0.mk (Kd.R_over' (R_later HO_7.out) (Kd.R_typed (R_later HO_6.out)) (by decide) hg); replace HB := Aside0.mk (hb); clear HO_6; clear ho hb hg hat))
       go_roundg k1
       case measure => have := HK1.out; omega
       case rel => exact ⟨(y137), (wrap64 (x8_1 + 1)), (by first | rfl | (simp [bne, *]; done) | (simp; done)), H', ⟨by have := HK1.out; omega⟩, ⟨by (with_reducible repeat (first | apply Kd.R_alloc | apply Kd.R_drewN | apply Kd.R_drew)); exact HO139.out⟩, ⟨by (with_reducible repeat (first | apply Kd.R_alloc | apply Kd.R_drewN | apply Kd.R_drew)); exact HO_7.out⟩, ⟨by repeat (first | (with_reducible first | exact HB.out | apply below_alloc | apply pw_below_drewN | apply below_drew1) | exact HB.out)⟩⟩
      rw [if_neg c10] at H
      exact absurd H (by simp)
     rw [if_neg c9] at H
     have c9b0 : decide (0 ≤ t136) = false := decide_eq_false c9
     clear c9
     replace H := Option.bind_eq_some_iff.mp H
     obtain ⟨⟨t141, t142⟩, A130, H⟩ := H
     try dsimp only at H
     have A13 := Aside0.mk A130
     clear A130
     by_cases c14 : t142 = true
     ·subst c14
      have H1 : (if a1 = true then (if (wrap64 (x8_1 + 1)) < (t132.length : Int) then (some (([] : List Int), false)) else ((some (([wrap64 (Int.tdiv (wrap64 (t141)) 65536), Int.tmod (wrap64 (t141)) 65536] : List Int) : List Int)).bind fun y143 => (if x6_1.length + y143.length < 17592186044416 then (r03_Groups.l0 k1 a1 (x6_1 ++ y143) t132 (wrap64 (x8_1 + 1))) else (none)))) else (some (([] : List Int), false))) = some (r1, r2) := by rw [if_pos rfl] at H; exact H
      clear H
      have H := H1
      clear H1
      by_cases c15 : a1 = true
      ·subst c15
       have H1 : (if (wrap64 (x8_1 + 1)) < (t132.length : Int) then (some (([] : List Int), false)) else ((some (([wrap64 (Int.tdiv (wrap64 (t141)) 65536), Int.tmod (wrap64 (t141)) 65536] : List Int) : List Int)).bind fun y143 => (if x6_1.length + y143.length < 17592186044416 then (r03_Groups.l0 k1 true (x6_1 ++ y143) t132 (wrap64 (x8_1 + 1))) else (none)))) = some (r1, r2) := by rw [if_pos rfl] at H; exact H
       clear H
       have H := H1
       clear H1
       by_cases c16 : (wrap64 (x8_1 + 1)) < (t132.length : Int)
       ·rw [if_pos c16] at H
        have c16b0 : decide ((wrap64 (x8_1 + 1)) < (t132.length : Int)) = true := decide_eq_true c16
        clear c16
        simp only [Option.some.injEq, Prod.mk.injEq] at H
        obtain ⟨rfl, rfl⟩ := H
        obtain ⟨Ao17, co17, eo17⟩ := Kd.R_slice HO_7.out
        subst eo17
        have p135 : 0 ≤ (x8_1 : Int) := of_decide_eq_true (by first | (with_reducible assumption) | assumption)
        have q135 : x8_1 < (t132.length : Int) := of_decide_eq_true (by first | (with_reducible assumption) | assumption)
        obtain ⟨ad135, e135, hx135_0⟩ := Kd.at_string (Kd.R_reads' HO_7.out).2.2 x8_1 p135 q135
        cases e135
        replace p135 := eq_true p135
        replace q135 := eq_true q135
        go_wp2_with (first | ((with_reducible refine gate_callee (f := 180) rfl ?_); refine goesL_ (some 27) rfl rfl Tryd.func180 (by kernel_rfl) rfl #[.string (rdOf ByteArray.empty t132 x8_1)] rfl (by (try simp only [List.map_toArray, List.map_cons, List.map_nil]); first | done | rfl) ?_; (with_reducible refine (r03_hex.calls k1 (rdOf ByteArray.empty t132 x8_1) t136 _ A8.out).mono ?_); rintro e w' ⟨rfl, ⟨nd, rfl⟩⟩; refine ⟨_, rfl, ?_⟩; have p140 : 0 ≤ (x8_1 : Int) := of_decide_eq_true (by first | (with_reducible assumption) | assumption); have q140 : x8_1 < (t132.length : Int) := of_decide_eq_true (by first | (with_reducible assumption) | assumption); obtain ⟨ad140, e140, hx140_0⟩ := Kd.at_string (Kd.R_reads' HO_7.out).2.2 x8_1 p140 q140; obtain rfl : ad135 = ad140 := (by injection e140); replace p140 := eq_true p140; replace q140 := eq_true q140) | ((with_reducible refine gate_callee (f := 181) rfl ?_); refine goesL_ (some 39) rfl rfl Tryd.func181 (by kernel_rfl) rfl #[.string (rdOf ByteArray.empty t132 x8_1)] rfl (by (try simp only [List.map_toArray, List.map_cons, List.map_nil]); first | done | rfl) ?_; (with_reducible refine (r02_Strict.calls k1 (rdOf ByteArray.empty t132 x8_1) t141 true _ A13.out).mono ?_); rintro e w18 ⟨rfl, hb⟩; refine ⟨_, rfl, ?_⟩; replace HO_6 := Aside0.mk (Kd.R_below (R_later HO_6.out) hb); replace HO_7 := Aside0.mk (Kd.R_below (R_later HO_7.out) hb); replace HB := Aside0.mk (below_step (bel_later HB.out) hb); (try clear hb); (try clear hb2); (try clear hk); (try clear hi)))
        go_ret2
        exact ⟨_, by first | rfl | (simp [errW_none, errW_some] <;> rfl) | (simp [*, errW_none, errW_some] <;> rfl), by first | exact Kd.R_nil _ _ _ _ _ | exact Kd.N_nil _ _ _ _ _ | exact Kd.V_nil _ _ _ _ _ | exact Kd.Q_nil _ _ _ _ _ | exact Kd.S_nil _ _ _ _ _, by repeat (first | (with_reducible first | exact HB.out | apply below_alloc | apply pw_below_drewN | apply below_drew1) | exact HB.out)⟩
       rw [if_neg c16] at H
       have c16b0 : decide ((wrap64 (x8_1 + 1)) < (t132.length : Int)) = false := decide_eq_false c16
       clear c16
       obtain ⟨y143, hy143⟩ : ∃ y_ : List Int, y_ = (([wrap64 (Int.tdiv (wrap64 (t141)) 65536), Int.tmod (wrap64 (t141)) 65536] : List Int)) := ⟨_, rfl⟩
       replace H : (if x6_1.length + y143.length < 17592186044416 then (r03_Groups.l0 k1 true (x6_1 ++ y143) t132 (wrap64 (x8_1 + 1))) else (none)) = some (r1, r2) := by first | (rw [hy143]; with_reducible exact H) | (have H2_ := (Option.bind_some _ _).symm.trans H; rw [hy143]; with_reducible exact H2_) | (have H2_ := (Option.bind_some _ _).symm.trans H; with_reducible exact H2_) | with_reducible exact H | (rw [hy143]; exact H) | exact H
       have Ny143 := Aside0.mk hy143
       clear hy143
       by_cases c19 : x6_1.length + y143.length < 17592186044416
       ·rw [if_pos c19] at H
        have LMc19 := Aside0.mk c19
        clear c19
        obtain ⟨y146, hy146⟩ : ∃ y_ : List Int, y_ = (x6_1 ++ y143) := ⟨_, rfl⟩
        replace H : (r03_Groups.l0 k1 true y146 t132 (wrap64 (x8_1 + 1))) = some (r1, r2) := by first | (rw [hy146]; with_reducible exact H) | (have H2_ := (Option.bind_some _ _).symm.trans H; rw [hy146]; with_reducible exact H2_) | (have H2_ := (Option.bind_some _ _).symm.trans H; with_reducible exact H2_) | with_reducible exact H | (rw [hy146]; exact H) | exact H
        have Ny146 := Aside0.mk hy146
        clear hy146
        have H' := Aside0.mk H
        clear H
        obtain ⟨Ao20, co20, eo20⟩ := Kd.R_slice HO_7.out
        subst eo20
        have p135 : 0 ≤ (x8_1 : Int) := of_decide_eq_true (by first | (with_reducible assumption) | assumption)
        have q135 : x8_1 < (t132.length : Int) := of_decide_eq_true (by first | (with_reducible assumption) | assumption)
        obtain ⟨ad135, e135, hx135_0⟩ := Kd.at_string (Kd.R_reads' HO_7.out).2.2 x8_1 p135 q135
        cases e135
        replace p135 := eq_true p135
        replace q135 := eq_true q135
        go_wp2_with (first | ((with_reducible refine gate_callee (f := 180) rfl ?_); refine goesL_ (some 27) rfl rfl Tryd.func180 (by kernel_rfl) rfl #[.string (rdOf ByteArray.empty t132 x8_1)] rfl (by (try simp only [List.map_toArray, List.map_cons, List.map_nil]); first | done | rfl) ?_; (with_reducible refine (r03_hex.calls k1 (rdOf ByteArray.empty t132 x8_1) t136 _ A8.out).mono ?_); rintro e w' ⟨rfl, ⟨nd, rfl⟩⟩; refine ⟨_, rfl, ?_⟩; have p140 : 0 ≤ (x8_1 : Int) := of_decide_eq_true (by first | (with_reducible assumption) | assumption); have q140 : x8_1 < (t132.length : Int) := of_decide_eq_true (by first | (with_reducible assumption) | assumption); obtain ⟨ad140, e140, hx140_0⟩ := Kd.at_string (Kd.R_reads' HO_7.out).2.2 x8_1 p140 q140; obtain rfl : ad135 = ad140 := (by injection e140); replace p140 := eq_true p140; replace q140 := eq_true q140) | ((with_reducible refine gate_callee (f := 181) rfl ?_); refine goesL_ (some 39) rfl rfl Tryd.func181 (by kernel_rfl) rfl #[.string (rdOf ByteArray.empty t132 x8_1)] rfl (by (try simp only [List.map_toArray, List.map_cons, List.map_nil]); first | done | rfl) ?_; (with_reducible refine (r02_Strict.calls k1 (rdOf ByteArray.empty t132 x8_1) t141 true _ A13.out).mono ?_); rintro e w21 ⟨rfl, hb⟩; refine ⟨_, rfl, ?_⟩; replace HO_6 := Aside0.mk (Kd.R_below (R_later HO_6.out) hb); replace HO_7 := Aside0.mk (Kd.R_below (R_later HO_7.out) hb); replace HB := Aside0.mk (below_step (bel_later HB.out) hb); (try clear hb); (try clear hb2); (try clear hk); (try clear hi)) | ((with_reducible refine gate_dst (N := 62) rfl ?_); (try (refine gate_guard (by rfl) ?_; dsimp only)); refine Kd.R_lit (Kd.int .i64) _ 3 ?hg (N := 62) ?hd (xs := ([wrap64 (Int.tdiv (wrap64 (t141)) 65536), Int.tmod (wrap64 (t141)) 65536] : List Int)) (inner := [.int .i64 (wrap64 (Int.tdiv (wrap64 (t141)) 65536)), .int .i64 (Int.tmod (wrap64 (t141)) 65536)]) (ok := fun _ => True) (okp := fun _ => True) ?hr ?hp (fun _ hk => hk) trivial (Below.refl _ _) (Nat.le_refl _) (by simp) ?_; (case hd => rfl); (case hg => rfl); (case hr => first | (go_simp; done) | (go_simp; rfl)); (case hp => exact (Reps.one (show Kd.M (Kd.int .i64) _ _ _ (wrap64 (Int.tdiv (wrap64 (t141)) 65536)) [.int .i64 (wrap64 (Int.tdiv (wrap64 (t141)) 65536))] from rfl) (Reps.one (show Kd.M (Kd.int .i64) _ _ _ (Int.tmod (wrap64 (t141)) 65536) [.int .i64 (Int.tmod (wrap64 (t141)) 65536)] from rfl) (Reps.none _ _)))); intro v144 w22 ho23 hb hg_ hnew_; clear hg_ hnew_; (first | rw [← Ny143.out] at ho23 | (simp only [Int.reduceToNat] at ho23; rw [← Ny143.out] at ho23)); have HO145 := Aside0.mk (Kd.R_lower (Kd.R_new' ho23 (Kd.R_lt (R_later HO_6.out))) (below_size (bel_later HB.out))); replace HO_6 := Aside0.mk (Kd.R_elder' (R_later HO_6.out) (Kd.R_base ho23) hb); replace HO_7 := Aside0.mk (Kd.R_below (R_later HO_7.out) hb); replace HB := Aside0.mk (below_step (bel_later HB.out) hb); clear hb ho23; obtain ⟨Ao25, co25, eo25⟩ := Kd.R_slice HO145.out; subst eo25) | ((with_reducible refine gate_builtin (b := .append) (xs := #[.tmp 55, .tmp 62]) rfl ?_); (try (refine gate_guard (by rfl) ?_; dsimp only)); at_builtin; refine Kd.R_append_rows (Kd.int .i64) (w0 := w) w.heap.size rfl (.tmp 55) (.tmp 62) 197 3 (.int .i64 0) 8 rfl Tryd.underlying197 info3 rfl (by decide) (by omega) u6 x6_1 y143 _ _ _ (fun k_ => some k_ ≠ (.slice Ao25 y143.length co25 : Value).ownBlock) (fun _ => False) rfl rfl ?aO ?aR (fun _ _ h => h) (fun _ h => h.elim) ?aF ?aB ?aS ?aL ?_; (case aR => repeat (first | exact (Kd.R_reads' HO145.out).2.2 | (with_reducible refine Kd.C_alloc ?_ _) | (with_reducible refine Kd.C_drewN ?_ _) | (with_reducible refine Kd.C_drew ?_))); (case aB => exact (bel_later HB.out)); (case aF => exact (fun k_ hk => Kd.fresh' (Kd.R_lt (R_later HO145.out)) k_ hk)); (case aO => exact (by (with_reducible repeat (first | apply Kd.R_alloc | apply Kd.R_drewN | apply Kd.R_drew)); exact Kd.R_mono HO_6.out (fun _ hk => hk.2))); (case aS => exact (below_size (bel_later HB.out))); (case aL => have := LMc19.out; omega); intro v147 w24 ho hb hg hat; rw [← Ny146.out] at ho; have HO148 := Aside0.mk (ho); replace HO_7 := Aside0.mk (Kd.R_over' (R_later HO_7.out) (Kd.R_typed (R_later HO_6.out)) (by decide) hg); replace HO145 := Aside0.mk (Kd.R_after (ok := (fun _ => True)) (R_later HO145.out) hg hat); replace HB := Aside0.mk (hb); clear HO_6; clear ho hb hg hat))
        go_roundg k1
        case measure => have := HK1.out; omega
        case rel => exact ⟨(y146), (wrap64 (x8_1 + 1)), (by first | rfl | (simp [bne, *]; done) | (simp; done)), H', ⟨by have := HK1.out; omega⟩, ⟨by (with_reducible repeat (first | apply Kd.R_alloc | apply Kd.R_drewN | apply Kd.R_drew)); exact Kd.R_mono HO148.out (fun _ hk => trivial)⟩, ⟨by (with_reducible repeat (first | apply Kd.R_alloc | apply Kd.R_drewN | apply Kd.R_drew)); exact HO_7.out⟩, ⟨by repeat (first | (with_reducible first | exact HB.out | apply below_alloc | apply pw_below_drewN | apply below_drew1) | exact HB.out)⟩⟩
       rw [if_neg c19] at H
       exact absurd H (by simp)
      replace c15 := Bool.eq_false_iff.mpr c15
      subst c15
      have H1 : (some (([] : List Int), false)) = some (r1, r2) := by rw [if_neg (show ¬ (false = true) by decide)] at H; exact H
      clear H
      have H := H1
      clear H1
      simp only [Option.some.injEq, Prod.mk.injEq] at H
      obtain ⟨rfl, rfl⟩ := H
      obtain ⟨Ao26, co26, eo26⟩ := Kd.R_slice HO_7.out
      subst eo26
      have p135 : 0 ≤ (x8_1 : Int) := of_decide_eq_true (by first | (with_reducible assumption) | assumption)
      have q135 : x8_1 < (t132.length : Int) := of_decide_eq_true (by first | (with_reducible assumption) | assumption)
      obtain ⟨ad135, e135, hx135_0⟩ := Kd.at_string (Kd.R_reads' HO_7.out).2.2 x8_1 p135 q135
      cases e135
      replace p135 := eq_true p135
      replace q135 := eq_true q135
      go_wp2_with (first | ((with_reducible refine gate_callee (f := 180) rfl ?_); refine goesL_ (some 27) rfl rfl Tryd.func180 (by kernel_rfl) rfl #[.string (rdOf ByteArray.empty t132 x8_1)] rfl (by (try simp only [List.map_toArray, List.map_cons, List.map_nil]); first | done | rfl) ?_; (with_reducible refine (r03_hex.calls k1 (rdOf ByteArray.empty t132 x8_1) t136 _ A8.out).mono ?_); rintro e w' ⟨rfl, ⟨nd, rfl⟩⟩; refine ⟨_, rfl, ?_⟩; have p140 : 0 ≤ (x8_1 : Int) := of_decide_eq_true (by first | (with_reducible assumption) | assumption); have q140 : x8_1 < (t132.length : Int) := of_decide_eq_true (by first | (with_reducible assumption) | assumption); obtain ⟨ad140, e140, hx140_0⟩ := Kd.at_string (Kd.R_reads' HO_7.out).2.2 x8_1 p140 q140; obtain rfl : ad135 = ad140 := (by injection e140); replace p140 := eq_true p140; replace q140 := eq_true q140) | ((with_reducible refine gate_callee (f := 181) rfl ?_); refine goesL_ (some 39) rfl rfl Tryd.func181 (by kernel_rfl) rfl #[.string (rdOf ByteArray.empty t132 x8_1)] rfl (by (try simp only [List.map_toArray, List.map_cons, List.map_nil]); first | done | rfl) ?_; (with_reducible refine (r02_Strict.calls k1 (rdOf ByteArray.empty t132 x8_1) t141 true _ A13.out).mono ?_); rintro e w27 ⟨rfl, hb⟩; refine ⟨_, rfl, ?_⟩; replace HO_6 := Aside0.mk (Kd.R_below (R_later HO_6.out) hb); replace HO_7 := Aside0.mk (Kd.R_below (R_later HO_7.out) hb); replace HB := Aside0.mk (below_step (bel_later HB.out) hb); (try clear hb); (try clear hb2); (try clear hk); (try clear hi)))
      go_ret2
      exact ⟨_, by first | rfl | (simp [errW_none, errW_some] <;> rfl) | (simp [*, errW_none, errW_some] <;> rfl), by first | exact Kd.R_nil _ _ _ _ _ | exact Kd.N_nil _ _ _ _ _ | exact Kd.V_nil _ _ _ _ _ | exact Kd.Q_nil _ _ _ _ _ | exact Kd.S_nil _ _ _ _ _, by repeat (first | (with_reducible first | exact HB.out | apply below_alloc | apply pw_below_drewN | apply below_drew1) | exact HB.out)⟩
     replace c14 := Bool.eq_false_iff.mpr c14
     subst c14
     have H1 : (some (([] : List Int), false)) = some (r1, r2) := by rw [if_neg (show ¬ (false = true) by decide)] at H; exact H
     clear H
     have H := H1
     clear H1
     simp only [Option.some.injEq, Prod.mk.injEq] at H
     obtain ⟨rfl, rfl⟩ := H
     obtain ⟨Ao28, co28, eo28⟩ := Kd.R_slice HO_7.out
     subst eo28
     have p135 : 0 ≤ (x8_1 : Int) := of_decide_eq_true (by first | (with_reducible assumption) | assumption)
     have q135 : x8_1 < (t132.length : Int) := of_decide_eq_true (by first | (with_reducible assumption) | assumption)
     obtain ⟨ad135, e135, hx135_0⟩ := Kd.at_string (Kd.R_reads' HO_7.out).2.2 x8_1 p135 q135
     cases e135
     replace p135 := eq_true p135
     replace q135 := eq_true q135
     go_wp2_with (first | ((with_reducible refine gate_callee (f := 180) rfl ?_); refine goesL_ (some 27) rfl rfl Tryd.func180 (by kernel_rfl) rfl #[.string (rdOf ByteArray.empty t132 x8_1)] rfl (by (try simp only [List.map_toArray, List.map_cons, List.map_nil]); first | done | rfl) ?_; (with_reducible refine (r03_hex.calls k1 (rdOf ByteArray.empty t132 x8_1) t136 _ A8.out).mono ?_); rintro e w' ⟨rfl, ⟨nd, rfl⟩⟩; refine ⟨_, rfl, ?_⟩; have p140 : 0 ≤ (x8_1 : Int) := of_decide_eq_true (by first | (with_reducible assumption) | assumption); have q140 : x8_1 < (t132.length : Int) := of_decide_eq_true (by first | (with_reducible assumption) | assumption); obtain ⟨ad140, e140, hx140_0⟩ := Kd.at_string (Kd.R_reads' HO_7.out).2.2 x8_1 p140 q140; obtain rfl : ad135 = ad140 := (by injection e140); replace p140 := eq_true p140; replace q140 := eq_true q140) | ((with_reducible refine gate_callee (f := 181) rfl ?_); refine goesL_ (some 39) rfl rfl Tryd.func181 (by kernel_rfl) rfl #[.string (rdOf ByteArray.empty t132 x8_1)] rfl (by (try simp only [List.map_toArray, List.map_cons, List.map_nil]); first | done | rfl) ?_; (with_reducible refine (r02_Strict.calls k1 (rdOf ByteArray.empty t132 x8_1) t141 false _ A13.out).mono ?_); rintro e w29 ⟨rfl, hb⟩; refine ⟨_, rfl, ?_⟩; replace HO_6 := Aside0.mk (Kd.R_below (R_later HO_6.out) hb); replace HO_7 := Aside0.mk (Kd.R_below (R_later HO_7.out) hb); replace HB := Aside0.mk (below_step (bel_later HB.out) hb); (try clear hb); (try clear hb2); (try clear hk); (try clear hi)))
     go_ret2
     exact ⟨_, by first | rfl | (simp [errW_none, errW_some] <;> rfl) | (simp [*, errW_none, errW_some] <;> rfl), by first | exact Kd.R_nil _ _ _ _ _ | exact Kd.N_nil _ _ _ _ _ | exact Kd.V_nil _ _ _ _ _ | exact Kd.Q_nil _ _ _ _ _ | exact Kd.S_nil _ _ _ _ _, by repeat (first | (with_reducible first | exact HB.out | apply below_alloc | apply pw_below_drewN | apply below_drew1) | exact HB.out)⟩
    rw [if_neg c7] at H
    exact absurd H (by simp)
   rw [if_neg c6] at H
   have c6b0 : decide (x8_1 < (t132.length : Int)) = false := decide_eq_false c6
   clear c6
   simp only [Option.some.injEq, Prod.mk.injEq] at H
   obtain ⟨rfl, rfl⟩ := H
   obtain ⟨Ao30, co30, eo30⟩ := Kd.R_slice HO_7.out
   subst eo30
   go_wp2
   go_ret2
   exact ⟨_, by first | rfl | (simp [errW_none, errW_some] <;> rfl) | (simp [*, errW_none, errW_some] <;> rfl), by (with_reducible repeat (first | apply Kd.R_alloc | apply Kd.R_drewN | apply Kd.R_drew)); exact HO_6.out, by repeat (first | (with_reducible first | exact HB.out | apply below_alloc | apply pw_below_drewN | apply below_drew1) | exact HB.out)⟩

/-! ### r03_gap: function 172 -/
def r03_gap.l0 : Nat → ByteArray → Int → Option (Int)
 | 0, _, _ => none
 | k + 1, x0, x3 => if (wrap64 (x3 + 1)) < (x0.size : Int) then (if 0 ≤ x3 then (if x3 < (x0.size : Int) then (if (bt x0 x3) = 58 then (if 0 ≤ (wrap64 (x3 + 1)) then (if (bt x0 (wrap64 (x3 + 1))) = 58 then (some x3) else (r03_gap.l0 k x0 (wrap64 (x3 + 1)))) else (none)) else (r03_gap.l0 k x0 (wrap64 (x3 + 1)))) else (none)) else (none)) else (some (-1))
def r03_gap.f (k : Nat) (a0 : ByteArray) : Option (Int) := r03_gap.l0 k a0 0
set_option maxHeartbeats 8000000 in
set_option maxRecDepth 100000 in
theorem r03_gap.calls (k : Nat) (a0 : ByteArray) (r : Int) (w : World) (h : r03_gap.f k a0 = some r) :
  Calls Tryd.prog 172 #[.string a0] w fun e w' => e = .returned (.int .i64 r) ∧ Drawn0 w w' := by
 have H := h
 unfold r03_gap.f at H
 clear h
 have H' := Aside0.mk H
 clear H
 go_enter Tryd.func172, Tryd.ntmps172
 go_wp2
 go_loopg [3] k (fun kq v3 w' => ∃ (x3_1 : Int), v3 = .int .i64 x3_1 ∧ Aside0 (r03_gap.l0 kq a0 x3_1 = some r) ∧ Aside0 (kq ≤ k) ∧ Drawn0 w w')
 case atStart => exact ⟨(0), (by first | rfl | (simp [bne, *]; done) | (simp; done)), H', ⟨Nat.le_refl _⟩, by repeat (first | exact Drawn0.refl _ | apply Drawn0.step)⟩
 case round =>
  clear H'
  try clear c1
  obtain ⟨x3_1, rfl, HA, HK1, ⟨m1, rfl⟩⟩ := hrel
  cases gk with
  | zero => exact absurd HA.out (by simp [r03_gap.l0])
  | succ k1 =>
   have H := HA.out
   clear HA
   simp only [r03_gap.l0] at H
   by_cases c2 : (wrap64 (x3_1 + 1)) < (a0.size : Int)
   ·rw [if_pos c2] at H
    have c2b0 : decide ((wrap64 (x3_1 + 1)) < (a0.size : Int)) = true := decide_eq_true c2
    clear c2
    by_cases c3 : 0 ≤ x3_1
    ·rw [if_pos c3] at H
     have c3b0 : decide (0 ≤ x3_1) = true := decide_eq_true c3
     clear c3
     by_cases c4 : x3_1 < (a0.size : Int)
     ·rw [if_pos c4] at H
      have c4b0 : decide (x3_1 < (a0.size : Int)) = true := decide_eq_true c4
      clear c4
      by_cases c6 : (bt a0 x3_1) = 58
      ·rw [if_pos c6] at H
       have c6b0 : ((bt a0 x3_1) == 58) = true := beq_iff_eq.mpr c6
       have c6b1 : ((bt a0 x3_1) != 58) = false := bne_eq_false_iff_eq.mpr c6
       clear c6
       obtain ⟨ji7, hji7⟩ : ∃ j_ : Int, (wrap64 (x3_1 + 1)) = j_ := ⟨_, rfl⟩
       replace H : (if 0 ≤ (ji7) then (if (bt a0 (ji7)) = 58 then (some x3_1) else (r03_gap.l0 k1 a0 ji7)) else (none)) = some r := by first | (rw [hji7] at H; exact H) | (simp only [hji7] at H ⊢; exact H)
       (try rw [hji7] at c2b0)
       have hji7w : (IntKind.i64.wrap (x3_1 + 1)) = ji7 := (i64_w _).trans hji7
       by_cases c8 : 0 ≤ (ji7)
       ·rw [if_pos c8] at H
        have c8b0 : decide (0 ≤ (ji7)) = true := decide_eq_true c8
        clear c8
        by_cases c10 : (bt a0 (ji7)) = 58
        ·rw [if_pos c10] at H
         have c10b0 : ((bt a0 (ji7)) == 58) = true := beq_iff_eq.mpr c10
         have c10b1 : ((bt a0 (ji7)) != 58) = false := bne_eq_false_iff_eq.mpr c10
         clear c10
         obtain rfl := Option.some.inj H
         have p5 : 0 ≤ (x3_1 : Int) := of_decide_eq_true (by first | (with_reducible assumption) | assumption)
         have q5 : x3_1 < (a0.size : Int) := of_decide_eq_true (by first | (with_reducible assumption) | assumption)
         have hx5 := bt_at a0 x3_1
         replace p5 := eq_true p5
         replace q5 := eq_true q5
         have p9 : 0 ≤ ((ji7) : Int) := of_decide_eq_true (by first | (with_reducible assumption) | assumption)
         have q9 : (ji7) < (a0.size : Int) := of_decide_eq_true (by first | (with_reducible assumption) | assumption)
         have hx9 := bt_at a0 (ji7)
         replace p9 := eq_true p9
         replace q9 := eq_true q9
         go_wp2
         go_ret
         exact ⟨by first | rfl | (simp; done) | (simp only [← hji7] <;> (first | rfl | simp)) | (simp [*]; done) | (simp [bne]; done) | (simp [bne, *]; done), by repeat (first | exact Drawn0.refl _ | apply Drawn0.step)⟩
        rw [if_neg c10] at H
        have c10b0 : ((bt a0 (ji7)) == 58) = false := beq_eq_false_iff_ne.mpr c10
        have c10b1 : ((bt a0 (ji7)) != 58) = true := bne_iff_ne.mpr c10
        have H' := Aside0.mk H
        clear H
        have p5 : 0 ≤ (x3_1 : Int) := of_decide_eq_true (by first | (with_reducible assumption) | assumption)
        have q5 : x3_1 < (a0.size : Int) := of_decide_eq_true (by first | (with_reducible assumption) | assumption)
        have hx5 := bt_at a0 x3_1
        replace p5 := eq_true p5
        replace q5 := eq_true q5
        have p9 : 0 ≤ ((ji7) : Int) := of_decide_eq_true (by first | (with_reducible assumption) | assumption)
        have q9 : (ji7) < (a0.size : Int) := of_decide_eq_true (by first | (with_reducible assumption) | assumption)
        have hx9 := bt_at a0 (ji7)
        replace p9 := eq_true p9
        replace q9 := eq_true q9
        go_wp2
        go_roundg k1
        case measure => have := HK1.out; omega
        case rel => exact ⟨(ji7), (by first | rfl | (simp; done) | (simp only [← hji7] <;> (first | rfl | simp)) | (simp [*]; done) | (simp [bne]; done) | (simp [bne, *]; done)), H', ⟨by have := HK1.out; omega⟩, by repeat (first | exact Drawn0.refl _ | apply Drawn0.step)⟩
       rw [if_neg c8] at H
       exact absurd H (by simp)
      rw [if_neg c6] at H
      have c6b0 : ((bt a0 x3_1) == 58) = false := beq_eq_false_iff_ne.mpr c6
      have c6b1 : ((bt a0 x3_1) != 58) = true := bne_iff_ne.mpr c6
      have H' := Aside0.mk H
      clear H
      have p5 : 0 ≤ (x3_1 : Int) := of_decide_eq_true (by first | (with_reducible assumption) | assumption)
      have q5 : x3_1 < (a0.size : Int) := of_decide_eq_true (by first | (with_reducible assumption) | assumption)
      have hx5 := bt_at a0 x3_1
      replace p5 := eq_true p5
      replace q5 := eq_true q5
      go_wp2
      go_roundg k1
      case measure => have := HK1.out; omega
      case rel => exact ⟨(wrap64 (x3_1 + 1)), (by first | rfl | (simp [bne, *]; done) | (simp; done)), H', ⟨by have := HK1.out; omega⟩, by repeat (first | exact Drawn0.refl _ | apply Drawn0.step)⟩
     rw [if_neg c4] at H
     exact absurd H (by simp)
    rw [if_neg c3] at H
    exact absurd H (by simp)
   rw [if_neg c2] at H
   have c2b0 : decide ((wrap64 (x3_1 + 1)) < (a0.size : Int)) = false := decide_eq_false c2
   clear c2
   obtain rfl := Option.some.inj H
   go_wp2
   go_ret
   exact ⟨by first | rfl | (simp [bne, *]; done) | (simp; done), by repeat (first | exact Drawn0.refl _ | apply Drawn0.step)⟩

/-! ### r03_group: function 174 -/
def r03_group.f : Nat → Int → Option (ByteArray)
 | 0, _ => none
 | k + 1, a0 => if 0 ≤ (Int.tmod a0 16) then (if (Int.tmod a0 16) ≤ (IntKind.u16.wrap ((Int.tmod a0 16) + 1)) then (if (IntKind.u16.wrap ((Int.tmod a0 16) + 1)) ≤ 16 then (if a0 < 16 then (some ((⟨#[48, 49, 50, 51, 52, 53, 54, 55, 56, 57, 97, 98, 99, 100, 101, 102]⟩ : ByteArray).extract ((Int.tmod a0 16) : Int).toNat ((IntKind.u16.wrap ((Int.tmod a0 16) + 1)) : Int).toNat)) else ((r03_group.f k (IntKind.u16.wrap (Int.tdiv a0 16))).bind fun t149 => (if t149.size + ((⟨#[48, 49, 50, 51, 52, 53, 54, 55, 56, 57, 97, 98, 99, 100, 101, 102]⟩ : ByteArray).extract ((Int.tmod a0 16) : Int).toNat ((IntKind.u16.wrap ((Int.tmod a0 16) + 1)) : Int).toNat).size ≤ 9223372036854775807 then (some (t149 ++ ((⟨#[48, 49, 50, 51, 52, 53, 54, 55, 56, 57, 97, 98, 99, 100, 101, 102]⟩ : ByteArray).extract ((Int.tmod a0 16) : Int).toNat ((IntKind.u16.wrap ((Int.tmod a0 16) + 1)) : Int).toNat))) else (none)))) else (none)) else (none)) else (none)
set_option maxHeartbeats 8000000 in
set_option maxRecDepth 100000 in
theorem r03_group.calls (k : Nat) : ∀ (a0 : Int) (r : ByteArray) (w : World) (h : r03_group.f k a0 = some r),
  Calls Tryd.prog 174 #[.int .u16 a0] w fun e w' => e = .returned (.string r) ∧ Drawn0 w w' := by
 induction k using Nat.strongRecOn with
 | _ k ih =>
 intro a0 r w h
 cases k with
 | zero => exact absurd h (by simp [r03_group.f])
 | succ k =>
 simp only [r03_group.f] at h
 have H : (if 0 ≤ (Int.tmod a0 16) then (if (Int.tmod a0 16) ≤ (IntKind.u16.wrap ((Int.tmod a0 16) + 1)) then (if (IntKind.u16.wrap ((Int.tmod a0 16) + 1)) ≤ 16 then (if a0 < 16 then (some ((⟨#[48, 49, 50, 51, 52, 53, 54, 55, 56, 57, 97, 98, 99, 100, 101, 102]⟩ : ByteArray).extract ((Int.tmod a0 16) : Int).toNat ((IntKind.u16.wrap ((Int.tmod a0 16) + 1)) : Int).toNat)) else ((r03_group.f k (IntKind.u16.wrap (Int.tdiv a0 16))).bind fun t149 => (if t149.size + ((⟨#[48, 49, 50, 51, 52, 53, 54, 55, 56, 57, 97, 98, 99, 100, 101, 102]⟩ : ByteArray).extract ((Int.tmod a0 16) : Int).toNat ((IntKind.u16.wrap ((Int.tmod a0 16) + 1)) : Int).toNat).size ≤ 9223372036854775807 then (some (t149 ++ ((⟨#[48, 49, 50, 51, 52, 53, 54, 55, 56, 57, 97, 98, 99, 100, 101, 102]⟩ : ByteArray).extract ((Int.tmod a0 16) : Int).toNat ((IntKind.u16.wrap ((Int.tmod a0 16) + 1)) : Int).toNat))) else (none)))) else (none)) else (none)) else (none)) = some r := h
 clear h
 obtain ⟨ji2, hji2⟩ : ∃ j_ : Int, (Int.tmod a0 16) = j_ := ⟨_, rfl⟩
 replace H : (if 0 ≤ (ji2) then (if (ji2) ≤ (IntKind.u16.wrap ((ji2) + 1)) then (if (IntKind.u16.wrap ((ji2) + 1)) ≤ 16 then (if a0 < 16 then (some ((⟨#[48, 49, 50, 51, 52, 53, 54, 55, 56, 57, 97, 98, 99, 100, 101, 102]⟩ : ByteArray).extract ((ji2) : Int).toNat ((IntKind.u16.wrap ((ji2) + 1)) : Int).toNat)) else ((r03_group.f k (IntKind.u16.wrap (Int.tdiv a0 16))).bind fun t149 => (if t149.size + ((⟨#[48, 49, 50, 51, 52, 53, 54, 55, 56, 57, 97, 98, 99, 100, 101, 102]⟩ : ByteArray).extract ((ji2) : Int).toNat ((IntKind.u16.wrap ((ji2) + 1)) : Int).toNat).size ≤ 9223372036854775807 then (some (t149 ++ ((⟨#[48, 49, 50, 51, 52, 53, 54, 55, 56, 57, 97, 98, 99, 100, 101, 102]⟩ : ByteArray).extract ((ji2) : Int).toNat ((IntKind.u16.wrap ((ji2) + 1)) : Int).toNat))) else (none)))) else (none)) else (none)) else (none)) = some r := by first | (rw [hji2] at H; exact H) | (simp only [hji2] at H ⊢; exact H)
 by_cases c3 : 0 ≤ (ji2)
 ·rw [if_pos c3] at H
  have c3b0 := eq_true c3
  have c3b1 : decide (0 ≤ (ji2)) = true := decide_eq_true c3
  clear c3
  by_cases c4 : (ji2) ≤ (IntKind.u16.wrap ((ji2) + 1))
  ·rw [if_pos c4] at H
   have c4b0 := eq_true c4
   have c4b1 : decide ((ji2) ≤ (IntKind.u16.wrap ((ji2) + 1))) = true := decide_eq_true c4
   by_cases c5 : (IntKind.u16.wrap ((ji2) + 1)) ≤ 16
   ·rw [if_pos c5] at H
    have c5b0 := eq_true c5
    have c5b1 : decide ((IntKind.u16.wrap ((ji2) + 1)) ≤ 16) = true := decide_eq_true c5
    by_cases c6 : a0 < 16
    ·rw [if_pos c6] at H
     have c6b0 : decide (a0 < 16) = true := decide_eq_true c6
     clear c6
     obtain rfl := Option.some.inj H
     go_enter Tryd.func174, Tryd.ntmps174
     go_wp2
     go_ret
     exact ⟨by first | rfl | (simp; done) | (simp only [← hji2] <;> (first | rfl | simp)) | (simp [*]; done) | (simp [bne]; done) | (simp [bne, *]; done), by repeat (first | exact Drawn0.refl _ | apply Drawn0.step)⟩
    rw [if_neg c6] at H
    have c6b0 : decide (a0 < 16) = false := decide_eq_false c6
    clear c6
    replace H := Option.bind_eq_some_iff.mp H
    obtain ⟨t149, A70, H⟩ := H
    try dsimp only at H
    have A7 := Aside0.mk A70
    clear A70
    by_cases c8 : t149.size + ((⟨#[48, 49, 50, 51, 52, 53, 54, 55, 56, 57, 97, 98, 99, 100, 101, 102]⟩ : ByteArray).extract ((ji2) : Int).toNat ((IntKind.u16.wrap ((ji2) + 1)) : Int).toNat).size ≤ 9223372036854775807
    ·rw [if_pos c8] at H
     have c8b0 := eq_true c8
     have c8b1 : decide (t149.size + ((⟨#[48, 49, 50, 51, 52, 53, 54, 55, 56, 57, 97, 98, 99, 100, 101, 102]⟩ : ByteArray).extract ((ji2) : Int).toNat ((IntKind.u16.wrap ((ji2) + 1)) : Int).toNat).size ≤ 9223372036854775807) = true := decide_eq_true c8
     try have c8b2 : (9223372036854775807 < t149.size + ((⟨#[48, 49, 50, 51, 52, 53, 54, 55, 56, 57, 97, 98, 99, 100, 101, 102]⟩ : ByteArray).extract ((ji2) : Int).toNat ((IntKind.u16.wrap ((ji2) + 1)) : Int).toNat).size) = False := eq_false (Nat.not_lt.2 c8)
     obtain rfl := Option.some.inj H
     go_enter Tryd.func174, Tryd.ntmps174
     go_wp2_with (first | ((with_reducible refine gate_callee (f := 174) rfl ?_); refine goesL_ (some 15) rfl rfl Tryd.func174 (by kernel_rfl) rfl #[.int .u16 (IntKind.u16.wrap (Int.tdiv a0 16))] rfl (by (try simp only [List.map_toArray, List.map_cons, List.map_nil]); first | done | rfl) ?_; (with_reducible refine (ih k (by omega) (IntKind.u16.wrap (Int.tdiv a0 16)) t149 _ A7.out).mono ?_); rintro e w' ⟨rfl, ⟨nd, rfl⟩⟩; refine ⟨_, rfl, ?_⟩))
     go_ret
     exact ⟨by first | rfl | (simp; done) | (simp only [← hji2] <;> (first | rfl | simp)) | (simp [*]; done) | (simp [bne]; done) | (simp [bne, *]; done), by repeat (first | exact Drawn0.refl _ | apply Drawn0.step)⟩
    rw [if_neg c8] at H
    exact absurd H (by simp)
   rw [if_neg c5] at H
   exact absurd H (by simp)
  rw [if_neg c4] at H
  exact absurd H (by simp)
 rw [if_neg c3] at H
 exact absurd H (by simp)

/-! ### r03_row: function 163 -/
def r03_row.l0 : Nat → List Int → List ByteArray → Int → Option (ByteArray)
 | 0, _, _, _ => none
 | k + 1, x0, x3, x4 => if x4 < (x0.length : Int) then (if 0 ≤ x4 then ((r03_group.f k (rd x0 x4)).bind fun t151 => (if x3.length < 8796093022208 then (r03_row.l0 k x0 (x3 ++ [t151]) (wrap64 (x4 + 1))) else (none))) else (none)) else ((r01_Join.f k x3 (⟨#[58]⟩ : ByteArray)).bind fun t155 => (some t155))
def r03_row.f (k : Nat) (l0 : List Int) : Option (ByteArray) := r03_row.l0 k l0 ([] : List ByteArray) 0
set_option maxHeartbeats 8000000 in
set_option maxRecDepth 100000 in
theorem r03_row.calls (k : Nat) (A0 : Option Addr) (c0 : Nat) (l0 : List Int) (r : ByteArray) (w : World) (hr0 : Kd.C (Kd.int .u16) w A0 l0.length l0) (hc0 : l0.length ≤ c0) (h : r03_row.f k l0 = some r) :
  Calls Tryd.prog 163 #[.slice A0 l0.length c0] w fun e w' => e = .returned (.string r) ∧ Below w.heap.size w w' := by
 have HR0 := Aside0.mk hr0
 have HC0 := Aside0.mk hc0
 clear hr0 hc0
 have HB := Aside0.mk (Below.refl w.heap.size w)
 have H := h
 unfold r03_row.f at H
 clear h
 have H' := Aside0.mk H
 clear H
 go_enter Tryd.func163, Tryd.ntmps163
 go_wp2
 go_loopg [3, 4] k (fun kq v3 v4 w' => ∃ (x3_1 : List ByteArray) (x4_1 : Int), v4 = .int .i64 x4_1 ∧ Aside0 (r03_row.l0 kq l0 x3_1 x4_1 = some r) ∧ Aside0 (kq ≤ k) ∧ Aside0 (Kd.R Kd.string 9 w' w.heap.size (fun _ => True) v3 x3_1) ∧ Aside0 (Below w.heap.size w w'))
 case atStart => exact ⟨(([] : List ByteArray)), (0), (by first | rfl | (simp [bne, *]; done) | (simp; done)), H', ⟨Nat.le_refl _⟩, ⟨by first | exact Kd.R_nil _ _ _ _ _ | exact Kd.N_nil _ _ _ _ _ | exact Kd.V_nil _ _ _ _ _ | exact Kd.Q_nil _ _ _ _ _ | exact Kd.S_nil _ _ _ _ _⟩, ⟨by repeat (first | (with_reducible first | exact HB.out | apply below_alloc | apply pw_below_drewN | apply below_drew1) | exact HB.out)⟩⟩
 case round =>
  clear H'
  try clear c1
  obtain ⟨x3_1, x4_1, rfl, HA, HK1, HO_3, HB⟩ := hrel
  cases gk with
  | zero => exact absurd HA.out (by simp [r03_row.l0])
  | succ k1 =>
   have H := HA.out
   clear HA
   simp only [r03_row.l0] at H
   by_cases c2 : x4_1 < (l0.length : Int)
   ·rw [if_pos c2] at H
    have c2b0 : decide (x4_1 < (l0.length : Int)) = true := decide_eq_true c2
    clear c2
    by_cases c3 : 0 ≤ x4_1
    ·rw [if_pos c3] at H
     have c3b0 : decide (0 ≤ x4_1) = true := decide_eq_true c3
     clear c3
     replace H := Option.bind_eq_some_iff.mp H
     obtain ⟨t151, A40, H⟩ := H
     try dsimp only at H
     have A4 := Aside0.mk A40
     clear A40
     by_cases c5 : x3_1.length < 8796093022208
     ·rw [if_pos c5] at H
      have LMc5 := Aside0.mk c5
      clear c5
      obtain ⟨y152, hy152⟩ : ∃ y_ : List ByteArray, y_ = (x3_1 ++ [t151]) := ⟨_, rfl⟩
      replace H : (r03_row.l0 k1 l0 y152 (wrap64 (x4_1 + 1))) = some r := by first | (rw [hy152]; with_reducible exact H) | (have H2_ := (Option.bind_some _ _).symm.trans H; rw [hy152]; with_reducible exact H2_) | (have H2_ := (Option.bind_some _ _).symm.trans H; with_reducible exact H2_) | with_reducible exact H | (rw [hy152]; exact H) | exact H
      have Ny152 := Aside0.mk hy152
      clear hy152
      have H' := Aside0.mk H
      clear H
      have p150 : 0 ≤ (x4_1 : Int) := of_decide_eq_true (by first | (with_reducible assumption) | assumption)
      have q150 : x4_1 < (l0.length : Int) := of_decide_eq_true (by first | (with_reducible assumption) | assumption)
      obtain ⟨ad150, e150, hx150_0⟩ := Kd.at_int HR0.out x4_1 p150 q150
      cases e150
      replace hx150_0 := (HB.out.cell (World.block_lt_of_cell? w _ hx150_0)).trans hx150_0
      replace p150 := eq_true p150
      replace q150 := eq_true q150
      go_wp2_with (first | ((with_reducible refine gate_callee (f := 174) rfl ?_); refine goesL_ (some 16) rfl rfl Tryd.func174 (by kernel_rfl) rfl #[.int .u16 (rd l0 x4_1)] rfl (by (try simp only [List.map_toArray, List.map_cons, List.map_nil]); first | done | rfl) ?_; (with_reducible refine (r03_group.calls k1 (rd l0 x4_1) t151 _ A4.out).mono ?_); rintro e w' ⟨rfl, ⟨nd, rfl⟩⟩; refine ⟨_, rfl, ?_⟩) | ((with_reducible refine gate_builtin (b := .append) (xs := #[.tmp 11, .tmp 17]) rfl ?_); at_builtin; refine Kd.R_append Kd.string (w0 := w) w.heap.size rfl (.tmp 11) (.tmp 17) 37 9 (.string ⟨#[]⟩) 16 rfl Tryd.underlying37 info9 rfl (by decide) (by omega) u3 x3_1 t151 [.string t151] (fun _ => True) (fun _ => False) rfl rfl ?aP (fun _ hk => hk.elim) ?aF ?aO ?aB ?aS ?aL ?_; (case aP => exact rfl); (case aB => exact (bel_later HB.out)); (case aF => exact (fun _ _ => trivial)); (case aO => exact (R_later HO_3.out)); (case aS => exact (below_size (bel_later HB.out))); (case aL => have := LMc5.out; omega); intro v153 w6 ho hb hg hat; rw [← Ny152.out] at ho; have HO154 := Aside0.mk (ho); replace HB := Aside0.mk (hb); clear HO_3; clear ho hb hg hat))
      go_roundg k1
      case measure => have := HK1.out; omega
      case rel => exact ⟨(y152), (wrap64 (x4_1 + 1)), (by first | rfl | (simp [bne, *]; done) | (simp; done)), H', ⟨by have := HK1.out; omega⟩, ⟨by (with_reducible repeat (first | apply Kd.R_alloc | apply Kd.R_drewN | apply Kd.R_drew)); exact HO154.out⟩, ⟨by repeat (first | (with_reducible first | exact HB.out | apply below_alloc | apply pw_below_drewN | apply below_drew1) | exact HB.out)⟩⟩
     rw [if_neg c5] at H
     exact absurd H (by simp)
    rw [if_neg c3] at H
    exact absurd H (by simp)
   rw [if_neg c2] at H
   have c2b0 : decide (x4_1 < (l0.length : Int)) = false := decide_eq_false c2
   clear c2
   replace H := Option.bind_eq_some_iff.mp H
   obtain ⟨t155, A70, H⟩ := H
   try dsimp only at H
   have A7 := Aside0.mk A70
   clear A70
   obtain rfl := Option.some.inj H
   obtain ⟨Ao8, co8, eo8⟩ := Kd.R_slice HO_3.out
   subst eo8
   go_wp2_with (first | ((with_reducible refine gate_callee (f := 16) rfl ?_); refine goesL_ (some 20) rfl rfl Tryd.func16 (by kernel_rfl) rfl #[.slice Ao8 x3_1.length co8, .string (⟨#[58]⟩ : ByteArray)] rfl (by (try simp only [List.map_toArray, List.map_cons, List.map_nil]); first | done | rfl) ?_; (with_reducible refine (r01_Join.calls k1 _ _ x3_1 (⟨#[58]⟩ : ByteArray) t155 _ ?side1 ?side2 A7.out).mono ?_); (case side1 => repeat (first | exact (Kd.R_reads' HO_3.out).2.2 | (with_reducible refine Kd.C_alloc ?_ _) | (with_reducible refine Kd.C_drewN ?_ _) | (with_reducible refine Kd.C_drew ?_))); (case side2 => exact (Kd.R_reads' HO_3.out).2.1); rintro e w' ⟨rfl, ⟨nd, rfl⟩⟩; refine ⟨_, rfl, ?_⟩))
   go_ret
   exact ⟨by first | rfl | (simp [errW_none, errW_some] <;> rfl) | (simp [*, errW_none, errW_some] <;> rfl), by repeat (first | (with_reducible first | exact HB.out | apply below_alloc | apply pw_below_drewN | apply below_drew1) | exact HB.out)⟩

/-! ### r08_Labels: function 166 -/
def r08_Labels.f (k : Nat) (a0 : ByteArray) : Option (List ByteArray) := if a0.toList = ([] : List UInt8) then (some ([] : List ByteArray)) else ((r01_Split.f k a0 46).bind fun t156 => (some t156))
set_option maxHeartbeats 8000000 in
set_option maxRecDepth 100000 in
theorem r08_Labels.calls (k : Nat) (a0 : ByteArray) (r : List ByteArray) (w : World) (h : r08_Labels.f k a0 = some r) :
  Calls Tryd.prog 166 #[.string a0] w fun e w' => ∃ v0_ : Value, e = .returned (v0_) ∧ Kd.R Kd.string 9 w' w.heap.size (fun _ => True) v0_ r ∧ Below w.heap.size w w' := by
 have HB := Aside0.mk (Below.refl w.heap.size w)
 have H := h
 unfold r08_Labels.f at H
 clear h
 by_cases c2 : a0.toList = ([] : List UInt8)
 ·rw [if_pos c2] at H
  have c2b0 : (a0.toList == ([] : List UInt8)) = true := beq_iff_eq.mpr c2
  have c2b1 : (a0.toList != ([] : List UInt8)) = false := bne_eq_false_iff_eq.mpr c2
  clear c2
  obtain rfl := Option.some.inj H
  go_enter Tryd.func166, Tryd.ntmps166
  go_wp2
  go_ret
  exact ⟨_, by first | rfl | (simp [errW_none, errW_some] <;> rfl) | (simp [*, errW_none, errW_some] <;> rfl), by first | exact Kd.R_nil _ _ _ _ _ | exact Kd.N_nil _ _ _ _ _ | exact Kd.V_nil _ _ _ _ _ | exact Kd.Q_nil _ _ _ _ _ | exact Kd.S_nil _ _ _ _ _, by repeat (first | (with_reducible first | exact HB.out | apply below_alloc | apply pw_below_drewN | apply below_drew1) | exact HB.out)⟩
 rw [if_neg c2] at H
 have c2b0 : (a0.toList == ([] : List UInt8)) = false := beq_eq_false_iff_ne.mpr c2
 have c2b1 : (a0.toList != ([] : List UInt8)) = true := bne_iff_ne.mpr c2
 replace H := Option.bind_eq_some_iff.mp H
 obtain ⟨t156, A30, H⟩ := H
 try dsimp only at H
 have A3 := Aside0.mk A30
 clear A30
 obtain rfl := Option.some.inj H
 go_enter Tryd.func166, Tryd.ntmps166
 go_wp2_with (first | ((with_reducible refine gate_callee (f := 17) rfl ?_); refine goesL_ (some 6) rfl rfl Tryd.func17 (by kernel_rfl) rfl #[.string a0, .int .u8 46] rfl (by (try simp only [List.map_toArray, List.map_cons, List.map_nil]); first | done | rfl) ?_; (with_reducible refine (r01_Split.calls k a0 46 t156 _ A3.out).mono ?_); rintro e w4 ⟨v157, rfl, ho0, hb⟩; refine ⟨_, rfl, ?_⟩; have HO158 := Aside0.mk (Kd.R_lower ho0 (below_size (bel_later HB.out))); replace HB := Aside0.mk (below_step (bel_later HB.out) hb); (try clear hb); (try clear hb2); (try clear hk); (try clear hi); (try clear ho0)))
 go_ret
 exact ⟨_, by first | rfl | (simp [errW_none, errW_some] <;> rfl) | (simp [*, errW_none, errW_some] <;> rfl), by (with_reducible repeat (first | apply Kd.R_alloc | apply Kd.R_drewN | apply Kd.R_drew)); exact HO158.out, by repeat (first | (with_reducible first | exact HB.out | apply below_alloc | apply pw_below_drewN | apply below_drew1) | exact HB.out)⟩


/-! ### r08_size: function 167 -/
def r08_size.l0 : Nat → List ByteArray → Int → Int → Option (Int)
 | 0, _, _, _ => none
 | k + 1, x0, x3, x4 => if x4 < (x0.length : Int) then (if 0 ≤ x4 then (r08_size.l0 k x0 (wrap64 ((wrap64 (x3 + 1)) + ((rdOf ByteArray.empty x0 x4).size : Int))) (wrap64 (x4 + 1))) else (none)) else (some x3)
def r08_size.f (k : Nat) (l0 : List ByteArray) : Option (Int) := r08_size.l0 k l0 1 0
set_option maxHeartbeats 8000000 in
set_option maxRecDepth 100000 in
theorem r08_size.calls (k : Nat) (A0 : Option Addr) (c0 : Nat) (l0 : List ByteArray) (r : Int) (w : World) (hr0 : Kd.C Kd.string w A0 l0.length l0) (hc0 : l0.length ≤ c0) (h : r08_size.f k l0 = some r) :
  Calls Tryd.prog 167 #[.slice A0 l0.length c0] w fun e w' => e = .returned (.int .i64 r) ∧ Drawn0 w w' := by
 have HR0 := Aside0.mk hr0
 have HC0 := Aside0.mk hc0
 clear hr0 hc0
 have H := h
 unfold r08_size.f at H
 clear h
 have H' := Aside0.mk H
 clear H
 go_enter Tryd.func167, Tryd.ntmps167
 go_wp2
 go_loopg [3, 4] k (fun kq v3 v4 w' => ∃ (x3_1 : Int) (x4_1 : Int), v3 = .int .i64 x3_1 ∧ v4 = .int .i64 x4_1 ∧ Aside0 (r08_size.l0 kq l0 x3_1 x4_1 = some r) ∧ Aside0 (kq ≤ k) ∧ Drawn0 w w')
 case atStart => exact ⟨(1), (0), (by first | rfl | (simp [bne, *]; done) | (simp; done)), (by first | rfl | (simp [bne, *]; done) | (simp; done)), H', ⟨Nat.le_refl _⟩, by repeat (first | exact Drawn0.refl _ | apply Drawn0.step)⟩
 case round =>
  clear H'
  try clear c1
  obtain ⟨x3_1, x4_1, rfl, rfl, HA, HK1, ⟨m1, rfl⟩⟩ := hrel
  cases gk with
  | zero => exact absurd HA.out (by simp [r08_size.l0])
  | succ k1 =>
   have H := HA.out
   clear HA
   simp only [r08_size.l0] at H
   by_cases c2 : x4_1 < (l0.length : Int)
   ·rw [if_pos c2] at H
    have c2b0 : decide (x4_1 < (l0.length : Int)) = true := decide_eq_true c2
    clear c2
    by_cases c3 : 0 ≤ x4_1
    ·rw [if_pos c3] at H
     have c3b0 : decide (0 ≤ x4_1) = true := decide_eq_true c3
     clear c3
     have H' := Aside0.mk H
     clear H
     have p159 : 0 ≤ (x4_1 : Int) := of_decide_eq_true (by first | (with_reducible assumption) | assumption)
     have q159 : x4_1 < (l0.length : Int) := of_decide_eq_true (by first | (with_reducible assumption) | assumption)
     obtain ⟨ad159, e159, hx159_0⟩ := Kd.at_string HR0.out x4_1 p159 q159
     cases e159
     replace p159 := eq_true p159
     replace q159 := eq_true q159
     go_wp2
     go_roundg k1
     case measure => have := HK1.out; omega
     case rel => exact ⟨(wrap64 ((wrap64 (x3_1 + 1)) + ((rdOf ByteArray.empty l0 x4_1).size : Int))), (wrap64 (x4_1 + 1)), (by first | rfl | (simp [bne, *]; done) | (simp; done)), (by first | rfl | (simp [bne, *]; done) | (simp; done)), H', ⟨by have := HK1.out; omega⟩, by repeat (first | exact Drawn0.refl _ | apply Drawn0.step)⟩
    rw [if_neg c3] at H
    exact absurd H (by simp)
   rw [if_neg c2] at H
   have c2b0 : decide (x4_1 < (l0.length : Int)) = false := decide_eq_false c2
   clear c2
   obtain rfl := Option.some.inj H
   go_wp2
   go_ret
   exact ⟨by first | rfl | (simp [bne, *]; done) | (simp; done), by repeat (first | exact Drawn0.refl _ | apply Drawn0.step)⟩

/-! ### r08_May: function 153 -/
def r08_May.l0 : Nat → List ByteArray → Int → Option (Bool)
 | 0, _, _ => none
 | k + 1, x3, x4 => if x4 < (x3.length : Int) then (if 0 ≤ x4 then (if ((rdOf ByteArray.empty x3 x4).size : Int) < 1 then (some false) else (if ((rdOf ByteArray.empty x3 x4).size : Int) > 63 then (some false) else (r08_May.l0 k x3 (wrap64 (x4 + 1))))) else (none)) else ((r08_size.f k x3).bind fun t165 => (some (decide (t165 ≤ 255))))
def r08_May.f (k : Nat) (a0 : ByteArray) : Option (Bool) := (r08_Labels.f k a0).bind fun t160 => (r08_May.l0 k t160 0)
set_option maxHeartbeats 8000000 in
set_option maxRecDepth 100000 in
theorem r08_May.calls (k : Nat) (a0 : ByteArray) (r : Bool) (w : World) (h : r08_May.f k a0 = some r) :
  Calls Tryd.prog 153 #[.string a0] w fun e w' => e = .returned (.bool r) ∧ Below w.heap.size w w' := by
 have HB := Aside0.mk (Below.refl w.heap.size w)
 have H := h
 unfold r08_May.f at H
 clear h
 replace H := Option.bind_eq_some_iff.mp H
 obtain ⟨t160, A20, H⟩ := H
 try dsimp only at H
 have A2 := Aside0.mk A20
 clear A20
 have H' := Aside0.mk H
 clear H
 go_enter Tryd.func153, Tryd.ntmps153
 go_wp2_with (first | ((with_reducible refine gate_callee (f := 166) rfl ?_); refine goesL_ (some 6) rfl rfl Tryd.func166 (by kernel_rfl) rfl #[.string a0] rfl (by (try simp only [List.map_toArray, List.map_cons, List.map_nil]); first | done | rfl) ?_; (with_reducible refine (r08_Labels.calls k a0 t160 _ A2.out).mono ?_); rintro e w3 ⟨v161, rfl, ho0, hb⟩; refine ⟨_, rfl, ?_⟩; have HO162 := Aside0.mk (Kd.R_lower ho0 (below_size (bel_later HB.out))); replace HB := Aside0.mk (below_step (bel_later HB.out) hb); (try clear hb); (try clear hb2); (try clear hk); (try clear hi); (try clear ho0)))
 go_loopg [4] k (fun kq v4 w' => ∃ (x4_1 : Int), v4 = .int .i64 x4_1 ∧ Aside0 (r08_May.l0 kq t160 x4_1 = some r) ∧ Aside0 (kq ≤ k) ∧ Aside0 (Kd.R Kd.string 9 w' w.heap.size (fun _ => True) v161 t160) ∧ Aside0 (Below w.heap.size w w'))
 case atStart => exact ⟨(0), (by first | rfl | (simp [bne, *]; done) | (simp; done)), H', ⟨Nat.le_refl _⟩, ⟨by (with_reducible repeat (first | apply Kd.R_alloc | apply Kd.R_drewN | apply Kd.R_drew)); exact HO162.out⟩, ⟨by repeat (first | (with_reducible first | exact HB.out | apply below_alloc | apply pw_below_drewN | apply below_drew1) | exact HB.out)⟩⟩
 case round =>
  clear H'
  try clear c1
  try clear p2
  obtain ⟨x4_1, rfl, HA, HK1, HO_3, HB⟩ := hrel
  cases gk with
  | zero => exact absurd HA.out (by simp [r08_May.l0])
  | succ k1 =>
   have H := HA.out
   clear HA
   simp only [r08_May.l0] at H
   by_cases c4 : x4_1 < (t160.length : Int)
   ·rw [if_pos c4] at H
    have c4b0 : decide (x4_1 < (t160.length : Int)) = true := decide_eq_true c4
    clear c4
    by_cases c5 : 0 ≤ x4_1
    ·rw [if_pos c5] at H
     have c5b0 : decide (0 ≤ x4_1) = true := decide_eq_true c5
     clear c5
     by_cases c6 : ((rdOf ByteArray.empty t160 x4_1).size : Int) < 1
     ·rw [if_pos c6] at H
      have c6b0 : decide (((rdOf ByteArray.empty t160 x4_1).size : Int) < 1) = true := decide_eq_true c6
      have c6b1 : decide ((rdOf ByteArray.empty t160 x4_1).size < 1) = true := decide_eq_true (by omega)
      clear c6
      obtain rfl := Option.some.inj H
      obtain ⟨Ao7, co7, eo7⟩ := Kd.R_slice HO_3.out
      subst eo7
      have p163 : 0 ≤ (x4_1 : Int) := of_decide_eq_true (by first | (with_reducible assumption) | assumption)
      have q163 : x4_1 < (t160.length : Int) := of_decide_eq_true (by first | (with_reducible assumption) | assumption)
      obtain ⟨ad163, e163, hx163_0⟩ := Kd.at_string (Kd.R_reads' HO_3.out).2.2 x4_1 p163 q163
      cases e163
      replace p163 := eq_true p163
      replace q163 := eq_true q163
      go_wp2
      go_ret
      exact ⟨by first | rfl | (simp [errW_none, errW_some] <;> rfl) | (simp [*, errW_none, errW_some] <;> rfl), by repeat (first | (with_reducible first | exact HB.out | apply below_alloc | apply pw_below_drewN | apply below_drew1) | exact HB.out)⟩
     rw [if_neg c6] at H
     have c6b0 : decide (((rdOf ByteArray.empty t160 x4_1).size : Int) < 1) = false := decide_eq_false c6
     have c6b1 : decide ((rdOf ByteArray.empty t160 x4_1).size < 1) = false := decide_eq_false (by omega)
     clear c6
     by_cases c8 : ((rdOf ByteArray.empty t160 x4_1).size : Int) > 63
     ·rw [if_pos c8] at H
      have c8b0 : decide (63 < ((rdOf ByteArray.empty t160 x4_1).size : Int)) = true := decide_eq_true c8
      have c8b1 : decide (63 < (rdOf ByteArray.empty t160 x4_1).size) = true := decide_eq_true (by omega)
      clear c8
      obtain rfl := Option.some.inj H
      obtain ⟨Ao9, co9, eo9⟩ := Kd.R_slice HO_3.out
      subst eo9
      have p163 : 0 ≤ (x4_1 : Int) := of_decide_eq_true (by first | (with_reducible assumption) | assumption)
      have q163 : x4_1 < (t160.length : Int) := of_decide_eq_true (by first | (with_reducible assumption) | assumption)
      obtain ⟨ad163, e163, hx163_0⟩ := Kd.at_string (Kd.R_reads' HO_3.out).2.2 x4_1 p163 q163
      cases e163
      replace p163 := eq_true p163
      replace q163 := eq_true q163
      have p164 : 0 ≤ (x4_1 : Int) := of_decide_eq_true (by first | (with_reducible assumption) | assumption)
      have q164 : x4_1 < (t160.length : Int) := of_decide_eq_true (by first | (with_reducible assumption) | assumption)
      obtain ⟨ad164, e164, hx164_0⟩ := Kd.at_string (Kd.R_reads' HO_3.out).2.2 x4_1 p164 q164
      obtain rfl : ad163 = ad164 := (by injection e164)
      replace p164 := eq_true p164
      replace q164 := eq_true q164
      go_wp2
      go_ret
      exact ⟨by first | rfl | (simp [errW_none, errW_some] <;> rfl) | (simp [*, errW_none, errW_some] <;> rfl), by repeat (first | (with_reducible first | exact HB.out | apply below_alloc | apply pw_below_drewN | apply below_drew1) | exact HB.out)⟩
     rw [if_neg c8] at H
     have c8b0 : decide (63 < ((rdOf ByteArray.empty t160 x4_1).size : Int)) = false := decide_eq_false c8
     have c8b1 : decide (63 < (rdOf ByteArray.empty t160 x4_1).size) = false := decide_eq_false (by omega)
     clear c8
     have H' := Aside0.mk H
     clear H
     obtain ⟨Ao10, co10, eo10⟩ := Kd.R_slice HO_3.out
     subst eo10
     have p163 : 0 ≤ (x4_1 : Int) := of_decide_eq_true (by first | (with_reducible assumption) | assumption)
     have q163 : x4_1 < (t160.length : Int) := of_decide_eq_true (by first | (with_reducible assumption) | assumption)
     obtain ⟨ad163, e163, hx163_0⟩ := Kd.at_string (Kd.R_reads' HO_3.out).2.2 x4_1 p163 q163
     cases e163
     replace p163 := eq_true p163
     replace q163 := eq_true q163
     have p164 : 0 ≤ (x4_1 : Int) := of_decide_eq_true (by first | (with_reducible assumption) | assumption)
     have q164 : x4_1 < (t160.length : Int) := of_decide_eq_true (by first | (with_reducible assumption) | assumption)
     obtain ⟨ad164, e164, hx164_0⟩ := Kd.at_string (Kd.R_reads' HO_3.out).2.2 x4_1 p164 q164
     obtain rfl : ad163 = ad164 := (by injection e164)
     replace p164 := eq_true p164
     replace q164 := eq_true q164
     go_wp2
     go_roundg k1
     case measure => have := HK1.out; omega
     case rel => exact ⟨(wrap64 (x4_1 + 1)), (by first | rfl | (simp [bne, *]; done) | (simp; done)), H', ⟨by have := HK1.out; omega⟩, ⟨by (with_reducible repeat (first | apply Kd.R_alloc | apply Kd.R_drewN | apply Kd.R_drew)); exact HO_3.out⟩, ⟨by repeat (first | (with_reducible first | exact HB.out | apply below_alloc | apply pw_below_drewN | apply below_drew1) | exact HB.out)⟩⟩
    rw [if_neg c5] at H
    exact absurd H (by simp)
   rw [if_neg c4] at H
   have c4b0 : decide (x4_1 < (t160.length : Int)) = false := decide_eq_false c4
   clear c4
   replace H := Option.bind_eq_some_iff.mp H
   obtain ⟨t165, A110, H⟩ := H
   try dsimp only at H
   have A11 := Aside0.mk A110
   clear A110
   obtain rfl := Option.some.inj H
   obtain ⟨Ao12, co12, eo12⟩ := Kd.R_slice HO_3.out
   subst eo12
   go_wp2_with (first | ((with_reducible refine gate_callee (f := 167) rfl ?_); refine goesL_ (some 28) rfl rfl Tryd.func167 (by kernel_rfl) rfl #[.slice Ao12 t160.length co12] rfl (by (try simp only [List.map_toArray, List.map_cons, List.map_nil]); first | done | rfl) ?_; (with_reducible refine (r08_size.calls k1 _ _ t160 t165 _ ?side1 ?side2 A11.out).mono ?_); (case side1 => repeat (first | exact (Kd.R_reads' HO_3.out).2.2 | (with_reducible refine Kd.C_alloc ?_ _) | (with_reducible refine Kd.C_drewN ?_ _) | (with_reducible refine Kd.C_drew ?_))); (case side2 => exact (Kd.R_reads' HO_3.out).2.1); rintro e w' ⟨rfl, ⟨nd, rfl⟩⟩; refine ⟨_, rfl, ?_⟩))
   go_ret
   exact ⟨by first | rfl | (simp [errW_none, errW_some] <;> rfl) | (simp [*, errW_none, errW_some] <;> rfl), by repeat (first | (with_reducible first | exact HB.out | apply below_alloc | apply pw_below_drewN | apply below_drew1) | exact HB.out)⟩

/-! ### r13_Port: function 89 -/
def r13_Port.f (a0 : ByteArray) : Option (Int) := if a0.toList = ([104, 116, 116, 112] : List UInt8) then (some 80) else (if a0.toList = ([104, 116, 116, 112, 115] : List UInt8) then (some 443) else (some 0))
set_option maxHeartbeats 8000000 in
set_option maxRecDepth 100000 in
theorem r13_Port.calls (a0 : ByteArray) (r : Int) (w : World) (h : r13_Port.f a0 = some r) :
  Calls Tryd.prog 89 #[.string a0] w fun e w' => e = .returned (.int .i64 r) ∧ Drawn0 w w' := by
 have H := h
 unfold r13_Port.f at H
 clear h
 by_cases c2 : a0.toList = ([104, 116, 116, 112] : List UInt8)
 ·rw [if_pos c2] at H
  have c2b0 : (a0.toList == ([104, 116, 116, 112] : List UInt8)) = true := beq_iff_eq.mpr c2
  have c2b1 : (a0.toList != ([104, 116, 116, 112] : List UInt8)) = false := bne_eq_false_iff_eq.mpr c2
  clear c2
  obtain rfl := Option.some.inj H
  go_enter Tryd.func89, Tryd.ntmps89
  go_wp2
  go_ret
  exact ⟨by first | rfl | (simp [bne, *]; done) | (simp; done), by repeat (first | exact Drawn0.refl _ | apply Drawn0.step)⟩
 rw [if_neg c2] at H
 have c2b0 : (a0.toList == ([104, 116, 116, 112] : List UInt8)) = false := beq_eq_false_iff_ne.mpr c2
 have c2b1 : (a0.toList != ([104, 116, 116, 112] : List UInt8)) = true := bne_iff_ne.mpr c2
 by_cases c3 : a0.toList = ([104, 116, 116, 112, 115] : List UInt8)
 ·rw [if_pos c3] at H
  have c3b0 : (a0.toList == ([104, 116, 116, 112, 115] : List UInt8)) = true := beq_iff_eq.mpr c3
  have c3b1 : (a0.toList != ([104, 116, 116, 112, 115] : List UInt8)) = false := bne_eq_false_iff_eq.mpr c3
  clear c3
  obtain rfl := Option.some.inj H
  go_enter Tryd.func89, Tryd.ntmps89
  go_wp2
  go_ret
  exact ⟨by first | rfl | (simp [bne, *]; done) | (simp; done), by repeat (first | exact Drawn0.refl _ | apply Drawn0.step)⟩
 rw [if_neg c3] at H
 have c3b0 : (a0.toList == ([104, 116, 116, 112, 115] : List UInt8)) = false := beq_eq_false_iff_ne.mpr c3
 have c3b1 : (a0.toList != ([104, 116, 116, 112, 115] : List UInt8)) = true := bne_iff_ne.mpr c3
 obtain rfl := Option.some.inj H
 go_enter Tryd.func89, Tryd.ntmps89
 go_wp2
 go_ret
 exact ⟨by first | rfl | (simp [bne, *]; done) | (simp; done), by repeat (first | exact Drawn0.refl _ | apply Drawn0.step)⟩

/-! ### r13_first: function 132 -/
def r13_first.l0 : Nat → ByteArray → ByteArray → Int → Option (Int)
 | 0, _, _, _ => none
 | k + 1, x0, x2, x7 => if x7 < (x0.size : Int) then (if 0 ≤ x7 then ((r01_Has.f k x2 (bt x0 x7)).bind fun t166 => (if t166 = true then (some x7) else (r13_first.l0 k x0 x2 (wrap64 (x7 + 1))))) else (none)) else (some (x0.size : Int))
def r13_first.f (k : Nat) (a0 : ByteArray) (a1 : Int) (a2 : ByteArray) : Option (Int) := r13_first.l0 k a0 a2 a1
set_option maxHeartbeats 8000000 in
set_option maxRecDepth 100000 in
theorem r13_first.calls (k : Nat) (a0 : ByteArray) (a1 : Int) (a2 : ByteArray) (r : Int) (w : World) (h : r13_first.f k a0 a1 a2 = some r) :
  Calls Tryd.prog 132 #[.string a0, .int .i64 a1, .string a2] w fun e w' => e = .returned (.int .i64 r) ∧ Drawn0 w w' := by
 have H := h
 unfold r13_first.f at H
 clear h
 have H' := Aside0.mk H
 clear H
 go_enter Tryd.func132, Tryd.ntmps132
 go_wp2
 go_loopg [7] k (fun kq v7 w' => ∃ (x7_1 : Int), v7 = .int .i64 x7_1 ∧ Aside0 (r13_first.l0 kq a0 a2 x7_1 = some r) ∧ Aside0 (kq ≤ k) ∧ Drawn0 w w')
 case atStart => exact ⟨(a1), (by first | rfl | (simp [bne, *]; done) | (simp; done)), H', ⟨Nat.le_refl _⟩, by repeat (first | exact Drawn0.refl _ | apply Drawn0.step)⟩
 case round =>
  clear H'
  try clear c1
  try clear p2
  obtain ⟨x7_1, rfl, HA, HK1, ⟨m1, rfl⟩⟩ := hrel
  cases gk with
  | zero => exact absurd HA.out (by simp [r13_first.l0])
  | succ k1 =>
   have H := HA.out
   clear HA
   simp only [r13_first.l0] at H
   by_cases c4 : x7_1 < (a0.size : Int)
   ·rw [if_pos c4] at H
    have c4b0 : decide (x7_1 < (a0.size : Int)) = true := decide_eq_true c4
    clear c4
    by_cases c5 : 0 ≤ x7_1
    ·rw [if_pos c5] at H
     have c5b0 : decide (0 ≤ x7_1) = true := decide_eq_true c5
     clear c5
     replace H := Option.bind_eq_some_iff.mp H
     obtain ⟨t166, A70, H⟩ := H
     try dsimp only at H
     have A7 := Aside0.mk A70
     clear A70
     by_cases c8 : t166 = true
     ·subst c8
      have H1 : (some x7_1) = some r := by rw [if_pos rfl] at H; exact H
      clear H
      have H := H1
      clear H1
      obtain rfl := Option.some.inj H
      have p6 : 0 ≤ (x7_1 : Int) := of_decide_eq_true (by first | (with_reducible assumption) | assumption)
      have q6 : x7_1 < (a0.size : Int) := of_decide_eq_true (by first | (with_reducible assumption) | assumption)
      have hx6 := bt_at a0 x7_1
      replace p6 := eq_true p6
      replace q6 := eq_true q6
      go_wp2_with (first | ((with_reducible refine gate_callee (f := 90) rfl ?_); refine goesL_ (some 19) rfl rfl Tryd.func90 (by kernel_rfl) rfl #[.string a2, .int .u8 (bt a0 x7_1)] rfl (by (try simp only [List.map_toArray, List.map_cons, List.map_nil]); first | done | rfl) ?_; (with_reducible refine (r01_Has.calls k1 a2 (bt a0 x7_1) true _ A7.out).mono ?_); rintro e w' ⟨rfl, ⟨nd, rfl⟩⟩; refine ⟨_, rfl, ?_⟩))
      go_ret
      exact ⟨by first | rfl | (simp [bne, *]; done) | (simp; done), by repeat (first | exact Drawn0.refl _ | apply Drawn0.step)⟩
     replace c8 := Bool.eq_false_iff.mpr c8
     subst c8
     have H1 : (r13_first.l0 k1 a0 a2 (wrap64 (x7_1 + 1))) = some r := by rw [if_neg (show ¬ (false = true) by decide)] at H; exact H
     clear H
     have H := H1
     clear H1
     have H' := Aside0.mk H
     clear H
     have p6 : 0 ≤ (x7_1 : Int) := of_decide_eq_true (by first | (with_reducible assumption) | assumption)
     have q6 : x7_1 < (a0.size : Int) := of_decide_eq_true (by first | (with_reducible assumption) | assumption)
     have hx6 := bt_at a0 x7_1
     replace p6 := eq_true p6
     replace q6 := eq_true q6
     go_wp2_with (first | ((with_reducible refine gate_callee (f := 90) rfl ?_); refine goesL_ (some 19) rfl rfl Tryd.func90 (by kernel_rfl) rfl #[.string a2, .int .u8 (bt a0 x7_1)] rfl (by (try simp only [List.map_toArray, List.map_cons, List.map_nil]); first | done | rfl) ?_; (with_reducible refine (r01_Has.calls k1 a2 (bt a0 x7_1) false _ A7.out).mono ?_); rintro e w' ⟨rfl, ⟨nd, rfl⟩⟩; refine ⟨_, rfl, ?_⟩))
     go_roundg k1
     case measure => have := HK1.out; omega
     case rel => exact ⟨(wrap64 (x7_1 + 1)), (by first | rfl | (simp [bne, *]; done) | (simp; done)), H', ⟨by have := HK1.out; omega⟩, by repeat (first | exact Drawn0.refl _ | apply Drawn0.step)⟩
    rw [if_neg c5] at H
    exact absurd H (by simp)
   rw [if_neg c4] at H
   have c4b0 : decide (x7_1 < (a0.size : Int)) = false := decide_eq_false c4
   clear c4
   obtain rfl := Option.some.inj H
   go_wp2
   go_ret
   exact ⟨by first | rfl | (simp [bne, *]; done) | (simp; done), by repeat (first | exact Drawn0.refl _ | apply Drawn0.step)⟩

/-! ### r13_scheme: function 131 -/
mutual
def r13_scheme.l0 : Nat → ByteArray → Int → Option (ByteArray × Int)
 | 0, _, _ => none
 | k + 1, x0, x4 => if x4 ≤ 5 then (r13_scheme.j1 k x0 x4 (decide ((wrap64 (x4 + 3)) ≤ (x0.size : Int)))) else (r13_scheme.j1 k x0 x4 false)
def r13_scheme.j1 : Nat → ByteArray → Int → Bool → Option (ByteArray × Int)
 | 0, _, _, _ => none
 | k + 1, x0, x4, x14 => if x14 = true then (if 0 ≤ x4 then (if x4 ≤ (x0.size : Int) then ((r01_Lower.f k (x0.extract 0 (x4 : Int).toNat)).bind fun t167 => ((r13_Port.f t167).bind fun t168 => (if t168 > 0 then (if x4 ≤ (wrap64 (x4 + 3)) then (if (wrap64 (x4 + 3)) ≤ (x0.size : Int) then (if (x0.extract (x4 : Int).toNat ((wrap64 (x4 + 3)) : Int).toNat).toList = ([58, 47, 47] : List UInt8) then (some (t167, wrap64 (x4 + 3))) else (r13_scheme.l0 k x0 (wrap64 (x4 + 1)))) else (none)) else (none)) else (r13_scheme.l0 k x0 (wrap64 (x4 + 1)))))) else (none)) else (none)) else (some ((⟨#[]⟩ : ByteArray), 0))
end
def r13_scheme.f (k : Nat) (a0 : ByteArray) : Option (ByteArray × Int) := r13_scheme.l0 k a0 4
set_option maxHeartbeats 8000000 in
set_option maxRecDepth 100000 in
theorem r13_scheme.calls (k : Nat) (a0 : ByteArray) (r1 : ByteArray) (r2 : Int) (w : World) (h : r13_scheme.f k a0 = some (r1, r2)) :
  Calls Tryd.prog 131 #[.string a0] w fun e w' => e = .returned (.tuple #[.string r1, .int .i64 r2]) ∧ Below w.heap.size w w' := by
 have HB := Aside0.mk (Below.refl w.heap.size w)
 have H := h
 unfold r13_scheme.f at H
 clear h
 have H' := Aside0.mk H
 clear H
 go_enter Tryd.func131, Tryd.ntmps131
 go_wp2
 go_loopg [4] k (fun kq v4 w' => ∃ (x4_1 : Int), v4 = .int .i64 x4_1 ∧ Aside0 (r13_scheme.l0 kq a0 x4_1 = some (r1, r2)) ∧ Aside0 (kq ≤ k) ∧ Aside0 (Below w.heap.size w w'))
 case atStart => exact ⟨(4), (by first | rfl | (simp [bne, *]; done) | (simp; done)), H', ⟨Nat.le_refl _⟩, ⟨by repeat (first | (with_reducible first | exact HB.out | apply below_alloc | apply pw_below_drewN | apply below_drew1) | exact HB.out)⟩⟩
 case round =>
  clear H'
  try clear c1
  obtain ⟨x4_1, rfl, HA, HK1, HB⟩ := hrel
  cases gk with
  | zero => exact absurd HA.out (by simp [r13_scheme.l0])
  | succ k1 =>
   have H := HA.out
   clear HA
   simp only [r13_scheme.l0] at H
   have HC2 := Aside0.mk H
   clear H
   go_upto_region 2 with (fail)
   go_cut [14] (fun v14 wc => ∃ (kq : Nat) (x14_1 : Bool), v14 = .bool x14_1 ∧ Aside0 (r13_scheme.j1 kq a0 x4_1 x14_1 = some (r1, r2)) ∧ Aside0 (kq ≤ k1) ∧ Aside0 (Below w.heap.size w wc))
   case first =>
    have H := HC2.out
    clear HC2
    by_cases c3 : x4_1 ≤ 5
    ·rw [if_pos c3] at H
     have c3b0 : decide (x4_1 ≤ 5) = true := decide_eq_true c3
     clear c3
     (first | rw [c3b0] | rw [c3b1] | (simp only [i64_w, i32_w]; rw [c3b0]) | skip)
     have H' := Aside0.mk H
     clear H
     go_wp2
     go_meet
     case rel => exact ⟨_, (decide ((wrap64 (x4_1 + 3)) ≤ (a0.size : Int))), (by first | rfl | (simp [bne, *]; done) | (simp; done)), H', ⟨by have := HK1.out; first | omega | exact Nat.le_refl _⟩, ⟨by repeat (first | (with_reducible first | exact HB.out | apply below_alloc | apply pw_below_drewN | apply below_drew1) | exact HB.out)⟩⟩
    rw [if_neg c3] at H
    have c3b0 : decide (x4_1 ≤ 5) = false := decide_eq_false c3
    clear c3
    (first | rw [c3b0] | rw [c3b1] | (simp only [i64_w, i32_w]; rw [c3b0]) | skip)
    have H' := Aside0.mk H
    clear H
    go_wp2
    go_meet
    case rel => exact ⟨_, (false), (by first | rfl | (simp [bne, *]; done) | (simp; done)), H', ⟨by have := HK1.out; first | omega | exact Nat.le_refl _⟩, ⟨by repeat (first | (with_reducible first | exact HB.out | apply below_alloc | apply pw_below_drewN | apply below_drew1) | exact HB.out)⟩⟩
   case rest =>
    clear HC2
    try clear c1
    try clear p2
    try clear c3
    try clear c3b0
    obtain ⟨kq, x14_1, rfl, HA, HJ1, HB⟩ := hcut
    cases kq with
    | zero => exact absurd HA.out (by simp [r13_scheme.j1])
    | succ kj1 =>
     have H := HA.out
     clear HA
     simp only [r13_scheme.j1] at H
     by_cases c4 : x14_1 = true
     ·subst c4
      have H1 : (if 0 ≤ x4_1 then (if x4_1 ≤ (a0.size : Int) then ((r01_Lower.f kj1 (a0.extract 0 (x4_1 : Int).toNat)).bind fun t167 => ((r13_Port.f t167).bind fun t168 => (if t168 > 0 then (if x4_1 ≤ (wrap64 (x4_1 + 3)) then (if (wrap64 (x4_1 + 3)) ≤ (a0.size : Int) then (if (a0.extract (x4_1 : Int).toNat ((wrap64 (x4_1 + 3)) : Int).toNat).toList = ([58, 47, 47] : List UInt8) then (some (t167, wrap64 (x4_1 + 3))) else (r13_scheme.l0 kj1 a0 (wrap64 (x4_1 + 1)))) else (none)) else (none)) else (r13_scheme.l0 kj1 a0 (wrap64 (x4_1 + 1)))))) else (none)) else (none)) = some (r1, r2) := by rw [if_pos rfl] at H; exact H
      clear H
      have H := H1
      clear H1
      by_cases c5 : 0 ≤ x4_1
      ·rw [if_pos c5] at H
       have c5b0 := eq_true c5
       have c5b1 : decide (0 ≤ x4_1) = true := decide_eq_true c5
       clear c5
       by_cases c6 : x4_1 ≤ (a0.size : Int)
       ·rw [if_pos c6] at H
        have c6b0 := eq_true c6
        have c6b1 : decide (x4_1 ≤ (a0.size : Int)) = true := decide_eq_true c6
        clear c6
        replace H := Option.bind_eq_some_iff.mp H
        obtain ⟨t167, A70, H⟩ := H
        try dsimp only at H
        have A7 := Aside0.mk A70
        clear A70
        replace H := Option.bind_eq_some_iff.mp H
        obtain ⟨t168, A80, H⟩ := H
        try dsimp only at H
        have A8 := Aside0.mk A80
        clear A80
        by_cases c9 : t168 > 0
        ·rw [if_pos c9] at H
         have c9b0 : decide (0 < t168) = true := decide_eq_true c9
         clear c9
         have c10b0 := eq_true (of_decide_eq_true (by first | (with_reducible assumption) | assumption) : 0 ≤ x4_1)
         by_cases c11 : x4_1 ≤ (wrap64 (x4_1 + 3))
         ·rw [if_pos c11] at H
          have c11b0 := eq_true c11
          have c11b1 : decide (x4_1 ≤ (wrap64 (x4_1 + 3))) = true := decide_eq_true c11
          by_cases c12 : (wrap64 (x4_1 + 3)) ≤ (a0.size : Int)
          ·rw [if_pos c12] at H
           have c12b0 := eq_true c12
           have c12b1 : decide ((wrap64 (x4_1 + 3)) ≤ (a0.size : Int)) = true := decide_eq_true c12
           by_cases c13 : (a0.extract (x4_1 : Int).toNat ((wrap64 (x4_1 + 3)) : Int).toNat).toList = ([58, 47, 47] : List UInt8)
           ·rw [if_pos c13] at H
            have c13b0 : ((a0.extract (x4_1 : Int).toNat ((wrap64 (x4_1 + 3)) : Int).toNat).toList == ([58, 47, 47] : List UInt8)) = true := beq_iff_eq.mpr c13
            have c13b1 : ((a0.extract (x4_1 : Int).toNat ((wrap64 (x4_1 + 3)) : Int).toNat).toList != ([58, 47, 47] : List UInt8)) = false := bne_eq_false_iff_eq.mpr c13
            clear c13
            simp only [Option.some.injEq, Prod.mk.injEq] at H
            obtain ⟨rfl, rfl⟩ := H
            go_wp2_with (first | ((with_reducible refine gate_callee (f := 51) rfl ?_); refine goesL_ (some 20) rfl rfl Tryd.func51 (by kernel_rfl) rfl #[.string (a0.extract 0 (x4_1 : Int).toNat)] rfl (by (try simp only [List.map_toArray, List.map_cons, List.map_nil]); first | done | rfl | (simp only [List.length_drop, List.length_take]; rfl)) ?_; (with_reducible refine (r01_Lower.calls kj1 (a0.extract 0 (x4_1 : Int).toNat) t167 _ A7.out).mono ?_); rintro e w14 ⟨rfl, hb⟩; refine ⟨_, rfl, ?_⟩; replace HB := Aside0.mk (below_step (bel_later HB.out) hb); (try clear hb); (try clear hb2); (try clear hk); (try clear hi)) | ((with_reducible refine gate_callee (f := 89) rfl ?_); refine goesL_ (some 22) rfl rfl Tryd.func89 (by kernel_rfl) rfl #[.string t167] rfl (by (try simp only [List.map_toArray, List.map_cons, List.map_nil]); first | done | rfl) ?_; (with_reducible refine (r13_Port.calls t167 t168 _ A8.out).mono ?_); rintro e w' ⟨rfl, ⟨nd, rfl⟩⟩; refine ⟨_, rfl, ?_⟩))
            go_ret2
            exact ⟨by first | rfl | (simp [errW_none, errW_some] <;> rfl) | (simp [*, errW_none, errW_some] <;> rfl), by repeat (first | (with_reducible first | exact HB.out | apply below_alloc | apply pw_below_drewN | apply below_drew1) | exact HB.out)⟩
           rw [if_neg c13] at H
           have c13b0 : ((a0.extract (x4_1 : Int).toNat ((wrap64 (x4_1 + 3)) : Int).toNat).toList == ([58, 47, 47] : List UInt8)) = false := beq_eq_false_iff_ne.mpr c13
           have c13b1 : ((a0.extract (x4_1 : Int).toNat ((wrap64 (x4_1 + 3)) : Int).toNat).toList != ([58, 47, 47] : List UInt8)) = true := bne_iff_ne.mpr c13
           have H' := Aside0.mk H
           clear H
           go_wp2_with (first | ((with_reducible refine gate_callee (f := 51) rfl ?_); refine goesL_ (some 20) rfl rfl Tryd.func51 (by kernel_rfl) rfl #[.string (a0.extract 0 (x4_1 : Int).toNat)] rfl (by (try simp only [List.map_toArray, List.map_cons, List.map_nil]); first | done | rfl | (simp only [List.length_drop, List.length_take]; rfl)) ?_; (with_reducible refine (r01_Lower.calls kj1 (a0.extract 0 (x4_1 : Int).toNat) t167 _ A7.out).mono ?_); rintro e w15 ⟨rfl, hb⟩; refine ⟨_, rfl, ?_⟩; replace HB := Aside0.mk (below_step (bel_later HB.out) hb); (try clear hb); (try clear hb2); (try clear hk); (try clear hi)) | ((with_reducible refine gate_callee (f := 89) rfl ?_); refine goesL_ (some 22) rfl rfl Tryd.func89 (by kernel_rfl) rfl #[.string t167] rfl (by (try simp only [List.map_toArray, List.map_cons, List.map_nil]); first | done | rfl) ?_; (with_reducible refine (r13_Port.calls t167 t168 _ A8.out).mono ?_); rintro e w' ⟨rfl, ⟨nd, rfl⟩⟩; refine ⟨_, rfl, ?_⟩))
           go_roundg kj1
           case measure => have := HK1.out; have := HJ1.out; omega
           case rel => exact ⟨(wrap64 (x4_1 + 1)), (by first | rfl | (simp [bne, *]; done) | (simp; done)), H', ⟨by have := HK1.out; have := HJ1.out; omega⟩, ⟨by repeat (first | (with_reducible first | exact HB.out | apply below_alloc | apply pw_below_drewN | apply below_drew1) | exact HB.out)⟩⟩
          rw [if_neg c12] at H
          exact absurd H (by simp)
         rw [if_neg c11] at H
         exact absurd H (by simp)
        rw [if_neg c9] at H
        have c9b0 : decide (0 < t168) = false := decide_eq_false c9
        clear c9
        have H' := Aside0.mk H
        clear H
        go_wp2_with (first | ((with_reducible refine gate_callee (f := 51) rfl ?_); refine goesL_ (some 20) rfl rfl Tryd.func51 (by kernel_rfl) rfl #[.string (a0.extract 0 (x4_1 : Int).toNat)] rfl (by (try simp only [List.map_toArray, List.map_cons, List.map_nil]); first | done | rfl | (simp only [List.length_drop, List.length_take]; rfl)) ?_; (with_reducible refine (r01_Lower.calls kj1 (a0.extract 0 (x4_1 : Int).toNat) t167 _ A7.out).mono ?_); rintro e w16 ⟨rfl, hb⟩; refine ⟨_, rfl, ?_⟩; replace HB := Aside0.mk (below_step (bel_later HB.out) hb); (try clear hb); (try clear hb2); (try clear hk); (try clear hi)) | ((with_reducible refine gate_callee (f := 89) rfl ?_); refine goesL_ (some 22) rfl rfl Tryd.func89 (by kernel_rfl) rfl #[.string t167] rfl (by (try simp only [List.map_toArray, List.map_cons, List.map_nil]); first | done | rfl) ?_; (with_reducible refine (r13_Port.calls t167 t168 _ A8.out).mono ?_); rintro e w' ⟨rfl, ⟨nd, rfl⟩⟩; refine ⟨_, rfl, ?_⟩))
        go_roundg kj1
        case measure => have := HK1.out; have := HJ1.out; omega
        case rel => exact ⟨(wrap64 (x4_1 + 1)), (by first | rfl | (simp [bne, *]; done) | (simp; done)), H', ⟨by have := HK1.out; have := HJ1.out; omega⟩, ⟨by repeat (first | (with_reducible first | exact HB.out | apply below_alloc | apply pw_below_drewN | apply below_drew1) | exact HB.out)⟩⟩
       rw [if_neg c6] at H
       exact absurd H (by simp)
      rw [if_neg c5] at H
      exact absurd H (by simp)
     replace c4 := Bool.eq_false_iff.mpr c4
     subst c4
     have H1 : (some ((⟨#[]⟩ : ByteArray), 0)) = some (r1, r2) := by rw [if_neg (show ¬ (false = true) by decide)] at H; exact H
     clear H
     have H := H1
     clear H1
     simp only [Option.some.injEq, Prod.mk.injEq] at H
     obtain ⟨rfl, rfl⟩ := H
     go_wp2
     go_ret2
     exact ⟨by first | rfl | (simp [errW_none, errW_some] <;> rfl) | (simp [*, errW_none, errW_some] <;> rfl), by repeat (first | (with_reducible first | exact HB.out | apply below_alloc | apply pw_below_drewN | apply below_drew1) | exact HB.out)⟩

/-! ### r13_Origin: function 59 -/
def r13_Origin.f (a0_0 : ByteArray) (a0_1 : ByteArray) (a0_2 : Int) (a0_3 : ByteArray) (a0_4 : ByteArray) : Option (ByteArray × ByteArray × Int) := some (a0_0, a0_1, a0_2)
set_option maxHeartbeats 8000000 in
set_option maxRecDepth 100000 in
theorem r13_Origin.calls (a0_0 : ByteArray) (a0_1 : ByteArray) (a0_2 : Int) (a0_3 : ByteArray) (a0_4 : ByteArray) (r1 : ByteArray) (r2 : ByteArray) (r3 : Int) (w : World) (h : r13_Origin.f a0_0 a0_1 a0_2 a0_3 a0_4 = some (r1, r2, r3)) :
  Calls Tryd.prog 59 #[.agg #[.string a0_0, .string a0_1, .int .i64 a0_2, .string a0_3, .string a0_4]] w fun e w' => e = .returned (.agg #[.string r1, .string r2, .int .i64 r3]) ∧ Below w.heap.size w w' := by
 have hu45 := Tryd.underlying45
 have hu43 := Tryd.underlying43
 have HB := Aside0.mk (Below.refl w.heap.size w)
 have H : (some (a0_0, a0_1, a0_2)) = some (r1, r2, r3) := h
 clear h
 simp only [Option.some.injEq, Prod.mk.injEq] at H
 obtain ⟨rfl, rfl, rfl⟩ := H
 go_enter Tryd.func59, Tryd.ntmps59
 go_wp2_with (first | ((with_reducible refine gate_dst (N := 1) rfl ?_); refine box_event ?hg (N := 1) ?hd (cs := #[.string a0_0, .string a0_1, .int .i64 a0_2, .string a0_3, .string a0_4]) (t := 45) ?hr ?_; (case hd => rfl); (case hg => rfl); (case hr => first | (go_simp; done) | (go_simp; rfl)); intro gb169 hg w2 hbox hb; have BK169 := Aside0.mk (hbox); have GW169 := Aside0.mk ((by rw [hg]; exact (below_size (bel_later HB.out)) : w.heap.size ≤ gb169)); have GE169 := Aside0.mk ((by rw [hg]; exact (below_size (bel_later HB.out)) : w.heap.size ≤ gb169)); replace HB := Aside0.mk (below_step (bel_later HB.out) hb); clear hb hbox hg) | ((with_reducible refine gate_dst (N := 2) rfl ?_); refine box_event ?hg (N := 2) ?hd (cs := #[.string (⟨#[]⟩ : ByteArray), .string (⟨#[]⟩ : ByteArray), .int .i64 0]) (t := 43) ?hr ?_; (case hd => rfl); (case hg => rfl); (case hr => first | (go_simp; done) | (go_simp; rfl)); intro gb170 hg w3 hbox hb; have BK170 := Aside0.mk (hbox); have GW170 := Aside0.mk ((by rw [hg]; exact (below_size (bel_later HB.out)) : w.heap.size ≤ gb170)); have GE170 := Aside0.mk ((by rw [hg]; exact (below_size (bel_later HB.out)) : w.heap.size ≤ gb170)); have NB169_170 := Aside0.mk ((by rw [hg]; exact Nat.ne_of_lt (blk_lt (blk_later BK169.out)) : gb169 ≠ gb170)); have NB170_169 := Aside0.mk ((by rw [hg]; exact Nat.ne_of_gt (blk_lt (blk_later BK169.out)) : gb170 ≠ gb169)); replace BK169 := Aside0.mk (blk_below (blk_later BK169.out) hb); replace HB := Aside0.mk (below_step (bel_later HB.out) hb); clear hb hbox hg; have hnb4 := NB169_170.out; have hnc4 := NB170_169.out; have hq1 := fun j => blk_cell BK169.out j; have hq3 := fun j => blk_frozen BK169.out j; have hq2 := fun j => blk_cell BK170.out j; have hq4 := fun j => blk_frozen BK170.out j))
 refine bodyPost_ret (results_cell_row rfl _ _ gb170 43 #[.string a0_0, .string a0_1, .int .i64 a0_2] (0, 0) _ rfl (blk_sets BK170.out) Tryd.underlying43 rfl (by kernel_rfl)) rfl ?_
 exact ⟨by first | rfl | (simp [errW_none, errW_some] <;> rfl) | (simp [*, errW_none, errW_some] <;> rfl), by repeat (first | (with_reducible first | exact HB.out | apply below_alloc | apply pw_below_drewN | apply below_drew1 | refine below_set ?_ GE169.out | refine below_set ?_ GE170.out) | exact HB.out)⟩


/-! ### r02_Loose: function 151 -/
mutual
def r02_Loose.j0 : Nat → List ByteArray → Bool → Option (Int × Int)
 | 0, _, _ => none
 | k + 1, x4, x25 => if x25 = true then (if 0 ≤ (wrap64 ((x4.length : Int) - 1)) then (if (wrap64 ((x4.length : Int) - 1)) ≤ (x4.length : Int) then (r02_Loose.j1 k (x4.take ((wrap64 ((x4.length : Int) - 1)) : Int).toNat)) else (none)) else (none)) else (r02_Loose.j1 k x4)
def r02_Loose.j1 : Nat → List ByteArray → Option (Int × Int)
 | 0, _ => none
 | k + 1, x4 => if 0 ≤ (wrap64 ((x4.length : Int) - 1)) then (if (wrap64 ((x4.length : Int) - 1)) < (x4.length : Int) then ((r02_Part.f k (rdOf ByteArray.empty x4 (wrap64 ((x4.length : Int) - 1)))).bind fun t123 => (if t123 < 0 then (if (rdOf ByteArray.empty x4 (wrap64 ((x4.length : Int) - 1))).toList = ([] : List UInt8) then (r02_Loose.j2 k x4 (rdOf ByteArray.empty x4 (wrap64 ((x4.length : Int) - 1))) true) else ((r02_digits.f k (rdOf ByteArray.empty x4 (wrap64 ((x4.length : Int) - 1))) 10).bind fun t124 => (r02_Loose.j2 k x4 (rdOf ByteArray.empty x4 (wrap64 ((x4.length : Int) - 1))) (decide (t124 < 0))))) else (r02_Loose.j2 k x4 (rdOf ByteArray.empty x4 (wrap64 ((x4.length : Int) - 1))) false))) else (none)) else (none)
def r02_Loose.j2 : Nat → List ByteArray → ByteArray → Bool → Option (Int × Int)
 | 0, _, _, _ => none
 | k + 1, x4, x5, x48 => if x48 = true then (some (0, 0)) else (if (x4.length : Int) > 4 then (some (0, 1)) else (r02_Loose.l0 k x4 x5 0 0))
def r02_Loose.l0 : Nat → List ByteArray → ByteArray → Int → Int → Option (Int × Int)
 | 0, _, _, _, _ => none
 | k + 1, x4, x5, x6, x7 => if (wrap64 (x7 + 1)) < (x4.length : Int) then (if 0 ≤ x7 then (if x7 < (x4.length : Int) then ((r02_Part.f k (rdOf ByteArray.empty x4 x7)).bind fun t126 => (if t126 < 0 then (some (0, 1)) else (if t126 > 255 then (some (0, 1)) else (r02_Loose.l0 k x4 x5 (wrap64 ((wrap64 (x6 * 256)) + t126)) (wrap64 (x7 + 1)))))) else (none)) else (none)) else (r02_Loose.l1 k x5 x6 1 (x4.length : Int))
def r02_Loose.l1 : Nat → ByteArray → Int → Int → Int → Option (Int × Int)
 | 0, _, _, _, _ => none
 | k + 1, x5, x6, x9, x10 => if x10 ≤ 4 then (r02_Loose.l1 k x5 x6 (wrap64 (x9 * 256)) (wrap64 (x10 + 1))) else ((r02_Part.f k x5).bind fun t127 => (if t127 < 0 then (some (0, 1)) else (if t127 ≥ x9 then (some (0, 1)) else (some ((wrap64 ((wrap64 (x6 * x9)) + t127)) % 4294967296, 2)))))
end
def r02_Loose.f (k : Nat) (a0 : ByteArray) : Option (Int × Int) := (r01_Split.f k a0 46).bind fun t115 => (if (t115.length : Int) > 1 then (if 0 ≤ (wrap64 ((t115.length : Int) - 1)) then (if (wrap64 ((t115.length : Int) - 1)) < (t115.length : Int) then (r02_Loose.j0 k t115 ((rdOf ByteArray.empty t115 (wrap64 ((t115.length : Int) - 1))).toList == ([] : List UInt8))) else (none)) else (none)) else (r02_Loose.j0 k t115 false))
set_option maxHeartbeats 8000000 in
set_option maxRecDepth 100000 in
theorem r02_Loose.calls (k : Nat) (a0 : ByteArray) (r1 : Int) (r2 : Int) (w : World) (h : r02_Loose.f k a0 = some (r1, r2)) :
  Calls Tryd.prog 151 #[.string a0] w fun e w' => e = .returned (.tuple #[.int .u32 r1, .int .i64 r2]) ∧ Below w.heap.size w w' := by
 have HB := Aside0.mk (Below.refl w.heap.size w)
 have H := h
 unfold r02_Loose.f at H
 clear h
 replace H := Option.bind_eq_some_iff.mp H
 obtain ⟨t115, A20, H⟩ := H
 try dsimp only at H
 have A2 := Aside0.mk A20
 clear A20
 have HC3 := Aside0.mk H
 clear H
 go_enter Tryd.func151, Tryd.ntmps151
 go_upto_region 2 with (first | ((with_reducible refine gate_callee (f := 17) rfl ?_); refine goesL_ (some 13) rfl rfl Tryd.func17 (by kernel_rfl) rfl #[.string a0, .int .u8 46] rfl (by (try simp only [List.map_toArray, List.map_cons, List.map_nil]); first | done | rfl) ?_; (with_reducible refine (r01_Split.calls k a0 46 t115 _ A2.out).mono ?_); rintro e w4 ⟨v116, rfl, ho0, hb⟩; refine ⟨_, rfl, ?_⟩; have HO117 := Aside0.mk (Kd.R_lower ho0 (below_size (bel_later HB.out))); replace HB := Aside0.mk (below_step (bel_later HB.out) hb); (try clear hb); (try clear hb2); (try clear hk); (try clear hi); (try clear ho0)))
 (try simp only [Act.put, List.setIfInBounds_toArray, List.set_cons_zero, List.set_cons_succ])
 go_cut [25] (fun v25 wc => ∃ (kq : Nat) (x25_2 : Bool), v25 = .bool x25_2 ∧ Aside0 (r02_Loose.j0 kq t115 x25_2 = some (r1, r2)) ∧ Aside0 (kq ≤ k) ∧ Aside0 (Kd.R Kd.string 9 wc w.heap.size (fun _ => True) v116 t115) ∧ Aside0 (Below w.heap.size w wc))
 case first =>
  have H := HC3.out
  clear HC3
  by_cases c5 : (t115.length : Int) > 1
  ·rw [if_pos c5] at H
   have c5b0 : decide (1 < (t115.length : Int)) = true := decide_eq_true c5
   have c5b1 : decide (1 < t115.length) = true := decide_eq_true (by omega)
   clear c5
   (first | rw [c5b0] | rw [c5b1] | (simp only [i64_w, i32_w]; rw [c5b0]) | skip)
   obtain ⟨ji6, hji6⟩ : ∃ j_ : Int, (wrap64 ((t115.length : Int) - 1)) = j_ := ⟨_, rfl⟩
   replace H : (if 0 ≤ (ji6) then (if (ji6) < (t115.length : Int) then (r02_Loose.j0 k t115 ((rdOf ByteArray.empty t115 (ji6)).toList == ([] : List UInt8))) else (none)) else (none)) = some (r1, r2) := by first | (rw [hji6] at H; exact H) | (simp only [hji6] at H ⊢; exact H)
   have hji6w : (IntKind.i64.wrap ((t115.length : Int) - 1)) = ji6 := (i64_w _).trans hji6
   by_cases c7 : 0 ≤ (ji6)
   ·rw [if_pos c7] at H
    have c7b0 : decide (0 ≤ (ji6)) = true := decide_eq_true c7
    clear c7
    by_cases c8 : (ji6) < (t115.length : Int)
    ·rw [if_pos c8] at H
     have c8b0 : decide ((ji6) < (t115.length : Int)) = true := decide_eq_true c8
     clear c8
     have H' := Aside0.mk H
     clear H
     obtain ⟨Ao9, co9, eo9⟩ := Kd.R_slice HO117.out
     subst eo9
     have p118 : 0 ≤ ((ji6) : Int) := of_decide_eq_true (by first | (with_reducible assumption) | assumption)
     have q118 : (ji6) < (t115.length : Int) := of_decide_eq_true (by first | (with_reducible assumption) | assumption)
     obtain ⟨ad118, e118, hx118_0⟩ := Kd.at_string (Kd.R_reads' HO117.out).2.2 (ji6) p118 q118
     cases e118
     replace p118 := eq_true p118
     replace q118 := eq_true q118
     go_wp2
     go_meet
     case rel => exact ⟨_, (((rdOf ByteArray.empty t115 (ji6)).toList == ([] : List UInt8))), (by first | rfl | (simp; done) | (simp only [← hji6] <;> (first | rfl | simp)) | (simp [*]; done) | (simp [bne]; done) | (simp [bne, *]; done)), H', ⟨by first | omega | exact Nat.le_refl _⟩, ⟨by (with_reducible repeat (first | apply Kd.R_alloc | apply Kd.R_drewN | apply Kd.R_drew)); exact HO117.out⟩, ⟨by repeat (first | (with_reducible first | exact HB.out | apply below_alloc | apply pw_below_drewN | apply below_drew1) | exact HB.out)⟩⟩
    rw [if_neg c8] at H
    exact absurd H (by simp)
   rw [if_neg c7] at H
   exact absurd H (by simp)
  rw [if_neg c5] at H
  have c5b0 : decide (1 < (t115.length : Int)) = false := decide_eq_false c5
  have c5b1 : decide (1 < t115.length) = false := decide_eq_false (by omega)
  clear c5
  (first | rw [c5b0] | rw [c5b1] | (simp only [i64_w, i32_w]; rw [c5b0]) | skip)
  have H' := Aside0.mk H
  clear H
  obtain ⟨Ao10, co10, eo10⟩ := Kd.R_slice HO117.out
  subst eo10
  go_wp2
  go_meet
  case rel => exact ⟨_, (false), (by first | rfl | (simp [bne, *]; done) | (simp; done)), H', ⟨by first | omega | exact Nat.le_refl _⟩, ⟨by (with_reducible repeat (first | apply Kd.R_alloc | apply Kd.R_drewN | apply Kd.R_drew)); exact HO117.out⟩, ⟨by repeat (first | (with_reducible first | exact HB.out | apply below_alloc | apply pw_below_drewN | apply below_drew1) | exact HB.out)⟩⟩
 case rest =>
  clear HC3
  try clear c1
  try clear p1
  try clear q1
  try clear hx1
  try clear p2
  try clear c5
  try clear c5b0
  try clear c5b1
  try clear p6
  try clear c7
  try clear c7b0
  try clear c8
  try clear c8b0
  try clear hx118_0
  try clear p118
  try clear q118
  obtain ⟨kq, x25_2, rfl, HA, HJ2, HO_4, HB⟩ := hcut
  cases kq with
  | zero => exact absurd HA.out (by simp [r02_Loose.j0])
  | succ kj2 =>
   have H := HA.out
   clear HA
   simp only [r02_Loose.j0] at H
   have HC11 := Aside0.mk H
   clear H
   go_upto_if 25 with (fail)
   go_cut [4] (fun v4 wc => ∃ (kq : Nat) (x4_10 : List ByteArray), Aside0 (r02_Loose.j1 kq x4_10 = some (r1, r2)) ∧ Aside0 (kq ≤ kj2) ∧ Aside0 (Kd.R Kd.string 9 wc w.heap.size (fun _ => True) v4 x4_10) ∧ Aside0 (Below w.heap.size w wc))
   case first =>
    have H := HC11.out
    clear HC11
    by_cases c12 : x25_2 = true
    ·subst c12
     have H1 : (if 0 ≤ (wrap64 ((t115.length : Int) - 1)) then (if (wrap64 ((t115.length : Int) - 1)) ≤ (t115.length : Int) then (r02_Loose.j1 kj2 (t115.take ((wrap64 ((t115.length : Int) - 1)) : Int).toNat)) else (none)) else (none)) = some (r1, r2) := by rw [if_pos rfl] at H; exact H
     clear H
     have H := H1
     clear H1
     obtain ⟨ji13, hji13⟩ : ∃ j_ : Int, (wrap64 ((t115.length : Int) - 1)) = j_ := ⟨_, rfl⟩
     replace H : (if 0 ≤ (ji13) then (if (ji13) ≤ (t115.length : Int) then (r02_Loose.j1 kj2 (t115.take ((ji13) : Int).toNat)) else (none)) else (none)) = some (r1, r2) := by first | (rw [hji13] at H; exact H) | (simp only [hji13] at H ⊢; exact H)
     have hji13w : (IntKind.i64.wrap ((t115.length : Int) - 1)) = ji13 := (i64_w _).trans hji13
     by_cases c14 : 0 ≤ (ji13)
     ·rw [if_pos c14] at H
      have c14b0 := eq_true c14
      have c14b1 : decide (0 ≤ (ji13)) = true := decide_eq_true c14
      clear c14
      by_cases c15 : (ji13) ≤ (t115.length : Int)
      ·rw [if_pos c15] at H
       have c15b0 := eq_true c15
       have c15b1 : decide ((ji13) ≤ (t115.length : Int)) = true := decide_eq_true c15
       clear c15
       obtain ⟨y119, hy119⟩ : ∃ y_ : List ByteArray, y_ = (t115.take ((ji13) : Int).toNat) := ⟨_, rfl⟩
       replace H : (r02_Loose.j1 kj2 y119) = some (r1, r2) := by first | (rw [hy119]; with_reducible exact H) | (have H2_ := (Option.bind_some _ _).symm.trans H; rw [hy119]; with_reducible exact H2_) | (have H2_ := (Option.bind_some _ _).symm.trans H; with_reducible exact H2_) | with_reducible exact H | (rw [hy119]; exact H) | exact H
       have Ny119 := Aside0.mk hy119
       clear hy119
       have H' := Aside0.mk H
       clear H
       obtain ⟨Ao16, co16, eo16⟩ := Kd.R_slice HO_4.out
       subst eo16
       have q17 : ((ji13) : Int) ≤ ((t115.length : Int) : Int) := of_decide_eq_true (by first | (with_reducible assumption) | assumption)
       obtain ⟨i017, hi017, _, hsz17, _⟩ := info_parts info9
       have hcut17 := cut_to (P := Tryd.prog) 37 9 .i64 Tryd.underlying37 hi017 Ao16 t115.length co16 (ji13) (of_decide_eq_true (by first | (with_reducible assumption) | assumption)) q17 (Kd.R_reads' HO_4.out).2.1
       have hr17 := Kd.R_take (m := ((ji13) : Int).toNat) HO_4.out (by omega)
       have hy17 : y119.length = ((ji13) : Int).toNat := (by rw [Ny119.out, List.length_take]; omega)
       rw [← Ny119.out] at hr17
       rw [← hy17] at hr17 hcut17
       clear hy17 hi017 hsz17 HO_4
       have HO121 := Aside0.mk hr17
       clear hr17
       replace q17 := eq_true q17
       go_wp2
       go_meet
       case rel => exact ⟨_, (y119), H', ⟨by have := HJ2.out; first | omega | exact Nat.le_refl _⟩, ⟨by (with_reducible repeat (first | apply Kd.R_alloc | apply Kd.R_drewN | apply Kd.R_drew)); exact HO121.out⟩, ⟨by repeat (first | (with_reducible first | exact HB.out | apply below_alloc | apply pw_below_drewN | apply below_drew1) | exact HB.out)⟩⟩
      rw [if_neg c15] at H
      exact absurd H (by simp)
     rw [if_neg c14] at H
     exact absurd H (by simp)
    replace c12 := Bool.eq_false_iff.mpr c12
    subst c12
    have H1 : (r02_Loose.j1 kj2 t115) = some (r1, r2) := by rw [if_neg (show ¬ (false = true) by decide)] at H; exact H
    clear H
    have H := H1
    clear H1
    have H' := Aside0.mk H
    clear H
    go_wp2
    go_meet
    case rel => exact ⟨_, (t115), H', ⟨by have := HJ2.out; first | omega | exact Nat.le_refl _⟩, ⟨by (with_reducible repeat (first | apply Kd.R_alloc | apply Kd.R_drewN | apply Kd.R_drew)); exact HO_4.out⟩, ⟨by repeat (first | (with_reducible first | exact HB.out | apply below_alloc | apply pw_below_drewN | apply below_drew1) | exact HB.out)⟩⟩
   case rest =>
    clear HC11
    try clear c1
    try clear p1
    try clear q1
    try clear hx1
    try clear p2
    try clear c5
    try clear c5b0
    try clear c5b1
    try clear p6
    try clear c7
    try clear c7b0
    try clear c8
    try clear c8b0
    try clear p11
    try clear q11
    try clear hx11
    try clear c12
    try clear c14
    try clear c14b0
    try clear c14b1
    try clear c15
    try clear c15b0
    try clear c15b1
    try clear c17
    try clear q17
    try clear hx118_0
    try clear p1
    try clear p118
    try clear p2
    try clear p6
    try clear q1
    try clear q118
    try clear q17
    obtain ⟨kq, x4_10, HA, HJ10, HO_4, HB⟩ := hcut
    cases kq with
    | zero => exact absurd HA.out (by simp [r02_Loose.j1])
    | succ kj10 =>
     have H := HA.out
     clear HA
     simp only [r02_Loose.j1] at H
     obtain ⟨ji18, hji18⟩ : ∃ j_ : Int, (wrap64 ((x4_10.length : Int) - 1)) = j_ := ⟨_, rfl⟩
     replace H : (if 0 ≤ (ji18) then (if (ji18) < (x4_10.length : Int) then ((r02_Part.f kj10 (rdOf ByteArray.empty x4_10 (ji18))).bind fun t123 => (if t123 < 0 then (if (rdOf ByteArray.empty x4_10 (ji18)).toList = ([] : List UInt8) then (r02_Loose.j2 kj10 x4_10 (rdOf ByteArray.empty x4_10 (ji18)) true) else ((r02_digits.f kj10 (rdOf ByteArray.empty x4_10 (ji18)) 10).bind fun t124 => (r02_Loose.j2 kj10 x4_10 (rdOf ByteArray.empty x4_10 (ji18)) (decide (t124 < 0))))) else (r02_Loose.j2 kj10 x4_10 (rdOf ByteArray.empty x4_10 (ji18)) false))) else (none)) else (none)) = some (r1, r2) := by first | (rw [hji18] at H; exact H) | (simp only [hji18] at H ⊢; exact H)
     have hji18w : (IntKind.i64.wrap ((x4_10.length : Int) - 1)) = ji18 := (i64_w _).trans hji18
     by_cases c19 : 0 ≤ (ji18)
     ·rw [if_pos c19] at H
      have c19b0 : decide (0 ≤ (ji18)) = true := decide_eq_true c19
      clear c19
      by_cases c20 : (ji18) < (x4_10.length : Int)
      ·rw [if_pos c20] at H
       have c20b0 : decide ((ji18) < (x4_10.length : Int)) = true := decide_eq_true c20
       clear c20
       have HC21 := Aside0.mk H
       clear H
       obtain ⟨Ao22, co22, eo22⟩ := Kd.R_slice HO_4.out
       subst eo22
       have p122 : 0 ≤ ((ji18) : Int) := of_decide_eq_true (by first | (with_reducible assumption) | assumption)
       have q122 : (ji18) < (x4_10.length : Int) := of_decide_eq_true (by first | (with_reducible assumption) | assumption)
       obtain ⟨ad122, e122, hx122_0⟩ := Kd.at_string (Kd.R_reads' HO_4.out).2.2 (ji18) p122 q122
       cases e122
       replace p122 := eq_true p122
       replace q122 := eq_true q122
       go_upto_region 5 with (fail)
       go_cut [48] (fun v48 wc => ∃ (kq : Nat) (x48_20 : Bool), v48 = .bool x48_20 ∧ Aside0 (r02_Loose.j2 kq x4_10 (rdOf ByteArray.empty x4_10 (ji18)) x48_20 = some (r1, r2)) ∧ Aside0 (kq ≤ kj10) ∧ Aside0 (Kd.R Kd.string 9 wc w.heap.size (fun _ => True) (.slice (some ad122) x4_10.length co22) x4_10) ∧ Aside0 (Below w.heap.size w wc))
       case first =>
        have H := HC21.out
        clear HC21
        replace H := Option.bind_eq_some_iff.mp H
        obtain ⟨t123, A230, H⟩ := H
        try dsimp only at H
        have A23 := Aside0.mk A230
        clear A230
        by_cases c24 : t123 < 0
        ·rw [if_pos c24] at H
         have c24b0 : decide (t123 < 0) = true := decide_eq_true c24
         clear c24
         (first | rw [c24b0] | rw [c24b1] | (simp only [i64_w, i32_w]; rw [c24b0]) | skip)
         by_cases c25 : (rdOf ByteArray.empty x4_10 (ji18)).toList = ([] : List UInt8)
         ·rw [if_pos c25] at H
          have c25b0 : ((rdOf ByteArray.empty x4_10 (ji18)).toList == ([] : List UInt8)) = true := beq_iff_eq.mpr c25
          have c25b1 : ((rdOf ByteArray.empty x4_10 (ji18)).toList != ([] : List UInt8)) = false := bne_eq_false_iff_eq.mpr c25
          clear c25
          have H' := Aside0.mk H
          clear H
          go_wp2_with (first | ((with_reducible refine gate_callee (f := 164) rfl ?_); refine goesL_ (some 38) rfl rfl Tryd.func164 (by kernel_rfl) rfl #[.string (rdOf ByteArray.empty x4_10 (ji18))] rfl (by (try simp only [List.map_toArray, List.map_cons, List.map_nil]); first | done | (simp only [hji18]; rfl) | rfl | (simp only [List.length_drop, List.length_take]; rfl)) ?_; (with_reducible refine (r02_Part.calls kj10 (rdOf ByteArray.empty x4_10 (ji18)) t123 _ A23.out).mono ?_); rintro e w26 ⟨rfl, hb⟩; refine ⟨_, rfl, ?_⟩; replace HO_4 := Aside0.mk (Kd.R_below (R_later HO_4.out) hb); replace HB := Aside0.mk (below_step (bel_later HB.out) hb); (try clear hb); (try clear hb2); (try clear hk); (try clear hi)))
          go_meet
          case rel => exact ⟨_, (true), (by first | rfl | (simp [bne, *]; done) | (simp; done)), H', ⟨by have := HJ2.out; have := HJ10.out; first | omega | exact Nat.le_refl _⟩, ⟨by (with_reducible repeat (first | apply Kd.R_alloc | apply Kd.R_drewN | apply Kd.R_drew)); exact HO_4.out⟩, ⟨by repeat (first | (with_reducible first | exact HB.out | apply below_alloc | apply pw_below_drewN | apply below_drew1) | exact HB.out)⟩⟩
         rw [if_neg c25] at H
         have c25b0 : ((rdOf ByteArray.empty x4_10 (ji18)).toList == ([] : List UInt8)) = false := beq_eq_false_iff_ne.mpr c25
         have c25b1 : ((rdOf ByteArray.empty x4_10 (ji18)).toList != ([] : List UInt8)) = true := bne_iff_ne.mpr c25
         replace H := Option.bind_eq_some_iff.mp H
         obtain ⟨t124, A270, H⟩ := H
         try dsimp only at H
         have A27 := Aside0.mk A270
         clear A270
         have H' := Aside0.mk H
         clear H
         go_wp2_with (first | ((with_reducible refine gate_callee (f := 164) rfl ?_); refine goesL_ (some 38) rfl rfl Tryd.func164 (by kernel_rfl) rfl #[.string (rdOf ByteArray.empty x4_10 (ji18))] rfl (by (try simp only [List.map_toArray, List.map_cons, List.map_nil]); first | done | (simp only [hji18]; rfl) | rfl | (simp only [List.length_drop, List.length_take]; rfl)) ?_; (with_reducible refine (r02_Part.calls kj10 (rdOf ByteArray.empty x4_10 (ji18)) t123 _ A23.out).mono ?_); rintro e w28 ⟨rfl, hb⟩; refine ⟨_, rfl, ?_⟩; replace HO_4 := Aside0.mk (Kd.R_below (R_later HO_4.out) hb); replace HB := Aside0.mk (below_step (bel_later HB.out) hb); (try clear hb); (try clear hb2); (try clear hk); (try clear hi)) | (go_at_call 165; (with_reducible refine (r02_digits.calls kj10 (rdOf ByteArray.empty x4_10 (ji18)) 10 t124 _ A27.out).mono ?_); rintro e w29 ⟨rfl, hb⟩; replace HO_4 := Aside0.mk (Kd.R_below (R_later HO_4.out) hb); replace HB := Aside0.mk (below_step (bel_later HB.out) hb); (try clear hb); (try clear hb2); (try clear hk); (try clear hi)))
         go_meet
         case rel => exact ⟨_, (decide (t124 < 0)), (by first | rfl | (simp [bne, *]; done) | (simp; done)), H', ⟨by have := HJ2.out; have := HJ10.out; first | omega | exact Nat.le_refl _⟩, ⟨by (with_reducible repeat (first | apply Kd.R_alloc | apply Kd.R_drewN | apply Kd.R_drew)); exact HO_4.out⟩, ⟨by repeat (first | (with_reducible first | exact HB.out | apply below_alloc | apply pw_below_drewN | apply below_drew1) | exact HB.out)⟩⟩
        rw [if_neg c24] at H
        have c24b0 : decide (t123 < 0) = false := decide_eq_false c24
        clear c24
        (first | rw [c24b0] | rw [c24b1] | (simp only [i64_w, i32_w]; rw [c24b0]) | skip)
        have H' := Aside0.mk H
        clear H
        go_wp2_with (first | ((with_reducible refine gate_callee (f := 164) rfl ?_); refine goesL_ (some 38) rfl rfl Tryd.func164 (by kernel_rfl) rfl #[.string (rdOf ByteArray.empty x4_10 (ji18))] rfl (by (try simp only [List.map_toArray, List.map_cons, List.map_nil]); first | done | (simp only [hji18]; rfl) | rfl | (simp only [List.length_drop, List.length_take]; rfl)) ?_; (with_reducible refine (r02_Part.calls kj10 (rdOf ByteArray.empty x4_10 (ji18)) t123 _ A23.out).mono ?_); rintro e w30 ⟨rfl, hb⟩; refine ⟨_, rfl, ?_⟩; replace HO_4 := Aside0.mk (Kd.R_below (R_later HO_4.out) hb); replace HB := Aside0.mk (below_step (bel_later HB.out) hb); (try clear hb); (try clear hb2); (try clear hk); (try clear hi)))
        go_meet
        case rel => exact ⟨_, (false), (by first | rfl | (simp [bne, *]; done) | (simp; done)), H', ⟨by have := HJ2.out; have := HJ10.out; first | omega | exact Nat.le_refl _⟩, ⟨by (with_reducible repeat (first | apply Kd.R_alloc | apply Kd.R_drewN | apply Kd.R_drew)); exact HO_4.out⟩, ⟨by repeat (first | (with_reducible first | exact HB.out | apply below_alloc | apply pw_below_drewN | apply below_drew1) | exact HB.out)⟩⟩
       case rest =>
        clear HC21
        try clear c1
        try clear p1
        try clear q1
        try clear hx1
        try clear c2
        try clear p2
        try clear c5
        try clear c5b0
        try clear c5b1
        try clear p6
        try clear c7
        try clear c7b0
        try clear c8
        try clear c8b0
        try clear p11
        try clear q11
        try clear hx11
        try clear c12
        try clear p12
        try clear q12
        try clear hx12
        try clear c14
        try clear c14b0
        try clear c14b1
        try clear c15
        try clear c15b0
        try clear c15b1
        try clear c16
        try clear c17
        try clear q17
        try clear c19
        try clear c19b0
        try clear c20
        try clear c20b0
        try clear c24
        try clear c24b0
        try clear c25
        try clear c25b0
        try clear c25b1
        try clear hx118_0
        try clear hx122_0
        try clear p1
        try clear p11
        try clear p118
        try clear p122
        try clear p2
        try clear p6
        try clear q1
        try clear q11
        try clear q118
        try clear q122
        try clear q17
        obtain ⟨kq, x48_20, rfl, HA, HJ20, HO_4, HB⟩ := hcut
        cases kq with
        | zero => exact absurd HA.out (by simp [r02_Loose.j2])
        | succ kj20 =>
         have H := HA.out
         clear HA
         simp only [r02_Loose.j2] at H
         by_cases c31 : x48_20 = true
         ·subst c31
          have H1 : (some (0, 0)) = some (r1, r2) := by rw [if_pos rfl] at H; exact H
          clear H
          have H := H1
          clear H1
          simp only [Option.some.injEq, Prod.mk.injEq] at H
          obtain ⟨rfl, rfl⟩ := H
          go_wp2
          go_ret2
          exact ⟨by first | rfl | (simp [errW_none, errW_some] <;> rfl) | (simp only [← hji18]; first | rfl | (simp [errW_none, errW_some] <;> rfl)) | (simp [*, errW_none, errW_some] <;> rfl), by repeat (first | (with_reducible first | exact HB.out | apply below_alloc | apply pw_below_drewN | apply below_drew1) | exact HB.out)⟩
         replace c31 := Bool.eq_false_iff.mpr c31
         subst c31
         have H1 : (if (x4_10.length : Int) > 4 then (some (0, 1)) else (r02_Loose.l0 kj20 x4_10 (rdOf ByteArray.empty x4_10 (ji18)) 0 0)) = some (r1, r2) := by rw [if_neg (show ¬ (false = true) by decide)] at H; exact H
         clear H
         have H := H1
         clear H1
         by_cases c32 : (x4_10.length : Int) > 4
         ·rw [if_pos c32] at H
          have c32b0 : decide (4 < (x4_10.length : Int)) = true := decide_eq_true c32
          have c32b1 : decide (4 < x4_10.length) = true := decide_eq_true (by omega)
          clear c32
          simp only [Option.some.injEq, Prod.mk.injEq] at H
          obtain ⟨rfl, rfl⟩ := H
          go_wp2
          go_ret2
          exact ⟨by first | rfl | (simp [errW_none, errW_some] <;> rfl) | (simp only [← hji18]; first | rfl | (simp [errW_none, errW_some] <;> rfl)) | (simp [*, errW_none, errW_some] <;> rfl), by repeat (first | (with_reducible first | exact HB.out | apply below_alloc | apply pw_below_drewN | apply below_drew1) | exact HB.out)⟩
         rw [if_neg c32] at H
         have c32b0 : decide (4 < (x4_10.length : Int)) = false := decide_eq_false c32
         have c32b1 : decide (4 < x4_10.length) = false := decide_eq_false (by omega)
         clear c32
         have H' := Aside0.mk H
         clear H
         go_wp2
         go_loopg [6, 7] kj20 (fun kq v6 v7 w' => ∃ (x6_4 : Int) (x7_4 : Int), v6 = .int .i64 x6_4 ∧ v7 = .int .i64 x7_4 ∧ Aside0 (r02_Loose.l0 kq x4_10 (rdOf ByteArray.empty x4_10 (ji18)) x6_4 x7_4 = some (r1, r2)) ∧ Aside0 (kq ≤ kj20) ∧ Aside0 (Kd.R Kd.string 9 w' w.heap.size (fun _ => True) (.slice (some ad122) x4_10.length co22) x4_10) ∧ Aside0 (Below w.heap.size w w'))
         case atStart => exact ⟨(0), (0), (by first | rfl | (simp [bne, *]; done) | (simp; done)), (by first | rfl | (simp [bne, *]; done) | (simp; done)), H', ⟨Nat.le_refl _⟩, ⟨by (with_reducible repeat (first | apply Kd.R_alloc | apply Kd.R_drewN | apply Kd.R_drew)); exact HO_4.out⟩, ⟨by repeat (first | (with_reducible first | exact HB.out | apply below_alloc | apply pw_below_drewN | apply below_drew1) | exact HB.out)⟩⟩
         case round =>
          clear H'
          try clear c1
          try clear p1
          try clear q1
          try clear hx1
          try clear c2
          try clear p2
          try clear c3
          try clear c5
          try clear c5b0
          try clear c5b1
          try clear p6
          try clear c7
          try clear c7b0
          try clear c8
          try clear c8b0
          try clear p11
          try clear q11
          try clear hx11
          try clear c12
          try clear p12
          try clear q12
          try clear hx12
          try clear c14
          try clear c14b0
          try clear c14b1
          try clear c15
          try clear c15b0
          try clear c15b1
          try clear c16
          try clear c17
          try clear q17
          try clear c19
          try clear c19b0
          try clear c20
          try clear c20b0
          try clear c24
          try clear c24b0
          try clear c25
          try clear c25b0
          try clear c25b1
          try clear c31
          try clear c32
          try clear c32b0
          try clear c32b1
          try clear hx118_0
          try clear hx122_0
          try clear p1
          try clear p11
          try clear p118
          try clear p12
          try clear p122
          try clear p2
          try clear p6
          try clear q1
          try clear q11
          try clear q118
          try clear q12
          try clear q122
          try clear q17
          obtain ⟨x6_4, x7_4, rfl, rfl, HA, HK4, HO_4, HB⟩ := hrel
          cases gk with
          | zero => exact absurd HA.out (by simp [r02_Loose.l0])
          | succ k4 =>
           have H := HA.out
           clear HA
           simp only [r02_Loose.l0] at H
           by_cases c33 : (wrap64 (x7_4 + 1)) < (x4_10.length : Int)
           ·rw [if_pos c33] at H
            have c33b0 : decide ((wrap64 (x7_4 + 1)) < (x4_10.length : Int)) = true := decide_eq_true c33
            clear c33
            by_cases c34 : 0 ≤ x7_4
            ·rw [if_pos c34] at H
             have c34b0 : decide (0 ≤ x7_4) = true := decide_eq_true c34
             clear c34
             by_cases c35 : x7_4 < (x4_10.length : Int)
             ·rw [if_pos c35] at H
              have c35b0 : decide (x7_4 < (x4_10.length : Int)) = true := decide_eq_true c35
              clear c35
              replace H := Option.bind_eq_some_iff.mp H
              obtain ⟨t126, A360, H⟩ := H
              try dsimp only at H
              have A36 := Aside0.mk A360
              clear A360
              by_cases c37 : t126 < 0
              ·rw [if_pos c37] at H
               have c37b0 : decide (t126 < 0) = true := decide_eq_true c37
               clear c37
               simp only [Option.some.injEq, Prod.mk.injEq] at H
               obtain ⟨rfl, rfl⟩ := H
               have p125 : 0 ≤ (x7_4 : Int) := of_decide_eq_true (by first | (with_reducible assumption) | assumption)
               have q125 : x7_4 < (x4_10.length : Int) := of_decide_eq_true (by first | (with_reducible assumption) | assumption)
               obtain ⟨ad125, e125, hx125_0⟩ := Kd.at_string (Kd.R_reads' HO_4.out).2.2 x7_4 p125 q125
               obtain rfl : ad122 = ad125 := (by injection e125)
               replace p125 := eq_true p125
               replace q125 := eq_true q125
               go_wp2_with (first | ((with_reducible refine gate_callee (f := 164) rfl ?_); refine goesL_ (some 63) rfl rfl Tryd.func164 (by kernel_rfl) rfl #[.string (rdOf ByteArray.empty x4_10 x7_4)] rfl (by (try simp only [List.map_toArray, List.map_cons, List.map_nil]); first | done | rfl) ?_; (with_reducible refine (r02_Part.calls k4 (rdOf ByteArray.empty x4_10 x7_4) t126 _ A36.out).mono ?_); rintro e w38 ⟨rfl, hb⟩; refine ⟨_, rfl, ?_⟩; replace HO_4 := Aside0.mk (Kd.R_below (R_later HO_4.out) hb); replace HB := Aside0.mk (below_step (bel_later HB.out) hb); (try clear hb); (try clear hb2); (try clear hk); (try clear hi)))
               go_ret2
               exact ⟨by first | rfl | (simp [errW_none, errW_some] <;> rfl) | (simp only [← hji18]; first | rfl | (simp [errW_none, errW_some] <;> rfl)) | (simp [*, errW_none, errW_some] <;> rfl), by repeat (first | (with_reducible first | exact HB.out | apply below_alloc | apply pw_below_drewN | apply below_drew1) | exact HB.out)⟩
              rw [if_neg c37] at H
              have c37b0 : decide (t126 < 0) = false := decide_eq_false c37
              clear c37
              by_cases c39 : t126 > 255
              ·rw [if_pos c39] at H
               have c39b0 : decide (255 < t126) = true := decide_eq_true c39
               clear c39
               simp only [Option.some.injEq, Prod.mk.injEq] at H
               obtain ⟨rfl, rfl⟩ := H
               have p125 : 0 ≤ (x7_4 : Int) := of_decide_eq_true (by first | (with_reducible assumption) | assumption)
               have q125 : x7_4 < (x4_10.length : Int) := of_decide_eq_true (by first | (with_reducible assumption) | assumption)
               obtain ⟨ad125, e125, hx125_0⟩ := Kd.at_string (Kd.R_reads' HO_4.out).2.2 x7_4 p125 q125
               obtain rfl : ad122 = ad125 := (by injection e125)
               replace p125 := eq_true p125
               replace q125 := eq_true q125
               go_wp2_with (first | ((with_reducible refine gate_callee (f := 164) rfl ?_); refine goesL_ (some 63) rfl rfl Tryd.func164 (by kernel_rfl) rfl #[.string (rdOf ByteArray.empty x4_10 x7_4)] rfl (by (try simp only [List.map_toArray, List.map_cons, List.map_nil]); first | done | rfl) ?_; (with_reducible refine (r02_Part.calls k4 (rdOf ByteArray.empty x4_10 x7_4) t126 _ A36.out).mono ?_); rintro e w40 ⟨rfl, hb⟩; refine ⟨_, rfl, ?_⟩; replace HO_4 := Aside0.mk (Kd.R_below (R_later HO_4.out) hb); replace HB := Aside0.mk (below_step (bel_later HB.out) hb); (try clear hb); (try clear hb2); (try clear hk); (try clear hi)))
               go_ret2
               exact ⟨by first | rfl | (simp [errW_none, errW_some] <;> rfl) | (simp only [← hji18]; first | rfl | (simp [errW_none, errW_some] <;> rfl)) | (simp [*, errW_none, errW_some] <;> rfl), by repeat (first | (with_reducible first | exact HB.out | apply below_alloc | apply pw_below_drewN | apply below_drew1) | exact HB.out)⟩
              rw [if_neg c39] at H
              have c39b0 : decide (255 < t126) = false := decide_eq_false c39
              clear c39
              have H' := Aside0.mk H
              clear H
              have p125 : 0 ≤ (x7_4 : Int) := of_decide_eq_true (by first | (with_reducible assumption) | assumption)
              have q125 : x7_4 < (x4_10.length : Int) := of_decide_eq_true (by first | (with_reducible assumption) | assumption)
              obtain ⟨ad125, e125, hx125_0⟩ := Kd.at_string (Kd.R_reads' HO_4.out).2.2 x7_4 p125 q125
              obtain rfl : ad122 = ad125 := (by injection e125)
              replace p125 := eq_true p125
              replace q125 := eq_true q125
              go_wp2_with (first | ((with_reducible refine gate_callee (f := 164) rfl ?_); refine goesL_ (some 63) rfl rfl Tryd.func164 (by kernel_rfl) rfl #[.string (rdOf ByteArray.empty x4_10 x7_4)] rfl (by (try simp only [List.map_toArray, List.map_cons, List.map_nil]); first | done | rfl) ?_; (with_reducible refine (r02_Part.calls k4 (rdOf ByteArray.empty x4_10 x7_4) t126 _ A36.out).mono ?_); rintro e w41 ⟨rfl, hb⟩; refine ⟨_, rfl, ?_⟩; replace HO_4 := Aside0.mk (Kd.R_below (R_later HO_4.out) hb); replace HB := Aside0.mk (below_step (bel_later HB.out) hb); (try clear hb); (try clear hb2); (try clear hk); (try clear hi)))
              go_roundg k4
              case measure => have := HJ2.out; have := HJ10.out; have := HJ20.out; have := HK4.out; omega
              case rel => exact ⟨(wrap64 ((wrap64 (x6_4 * 256)) + t126)), (wrap64 (x7_4 + 1)), (by first | rfl | (simp [bne, *]; done) | (simp; done)), (by first | rfl | (simp [bne, *]; done) | (simp; done)), H', ⟨by have := HJ2.out; have := HJ10.out; have := HJ20.out; have := HK4.out; omega⟩, ⟨by (with_reducible repeat (first | apply Kd.R_alloc | apply Kd.R_drewN | apply Kd.R_drew)); exact HO_4.out⟩, ⟨by repeat (first | (with_reducible first | exact HB.out | apply below_alloc | apply pw_below_drewN | apply below_drew1) | exact HB.out)⟩⟩
             rw [if_neg c35] at H
             exact absurd H (by simp)
            rw [if_neg c34] at H
            exact absurd H (by simp)
           rw [if_neg c33] at H
           have c33b0 : decide ((wrap64 (x7_4 + 1)) < (x4_10.length : Int)) = false := decide_eq_false c33
           clear c33
           have H' := Aside0.mk H
           clear H
           go_wp2
           go_loopg [9, 10] k4 (fun kq v9 v10 w' => ∃ (x9_5 : Int) (x10_5 : Int), v9 = .int .i64 x9_5 ∧ v10 = .int .i64 x10_5 ∧ Aside0 (r02_Loose.l1 kq (rdOf ByteArray.empty x4_10 (ji18)) x6_4 x9_5 x10_5 = some (r1, r2)) ∧ Aside0 (kq ≤ k4) ∧ Aside0 (Below w.heap.size w w'))
           case atStart => exact ⟨(1), ((x4_10.length : Int)), (by first | rfl | (simp [bne, *]; done) | (simp; done)), (by first | rfl | (simp [bne, *]; done) | (simp; done)), H', ⟨Nat.le_refl _⟩, ⟨by repeat (first | (with_reducible first | exact HB.out | apply below_alloc | apply pw_below_drewN | apply below_drew1) | exact HB.out)⟩⟩
           case round =>
            clear H'
            try clear c1
            try clear p1
            try clear q1
            try clear hx1
            try clear c2
            try clear p2
            try clear c3
            try clear c5
            try clear c5b0
            try clear c5b1
            try clear p6
            try clear c7
            try clear c7b0
            try clear c8
            try clear c8b0
            try clear p11
            try clear q11
            try clear hx11
            try clear c12
            try clear p12
            try clear q12
            try clear hx12
            try clear c14
            try clear c14b0
            try clear c14b1
            try clear c15
            try clear c15b0
            try clear c15b1
            try clear c16
            try clear c17
            try clear q17
            try clear c19
            try clear c19b0
            try clear c20
            try clear c20b0
            try clear c24
            try clear c24b0
            try clear c25
            try clear c25b0
            try clear c25b1
            try clear c31
            try clear c32
            try clear c32b0
            try clear c32b1
            try clear c33
            try clear c33b0
            try clear c34
            try clear c34b0
            try clear c35
            try clear c35b0
            try clear c37
            try clear c37b0
            try clear c39
            try clear c39b0
            try clear hx118_0
            try clear hx122_0
            try clear hx125_0
            try clear p1
            try clear p11
            try clear p118
            try clear p12
            try clear p122
            try clear p125
            try clear p2
            try clear p6
            try clear q1
            try clear q11
            try clear q118
            try clear q12
            try clear q122
            try clear q125
            try clear q17
            obtain ⟨x9_5, x10_5, rfl, rfl, HA, HK5, HB⟩ := hrel
            cases gk with
            | zero => exact absurd HA.out (by simp [r02_Loose.l1])
            | succ k5 =>
             have H := HA.out
             clear HA
             simp only [r02_Loose.l1] at H
             by_cases c42 : x10_5 ≤ 4
             ·rw [if_pos c42] at H
              have c42b0 : decide (x10_5 ≤ 4) = true := decide_eq_true c42
              clear c42
              have H' := Aside0.mk H
              clear H
              go_wp2
              go_roundg k5
              case measure => have := HJ2.out; have := HJ10.out; have := HJ20.out; have := HK4.out; have := HK5.out; omega
              case rel => exact ⟨(wrap64 (x9_5 * 256)), (wrap64 (x10_5 + 1)), (by first | rfl | (simp [bne, *]; done) | (simp; done)), (by first | rfl | (simp [bne, *]; done) | (simp; done)), H', ⟨by have := HJ2.out; have := HJ10.out; have := HJ20.out; have := HK4.out; have := HK5.out; omega⟩, ⟨by repeat (first | (with_reducible first | exact HB.out | apply below_alloc | apply pw_below_drewN | apply below_drew1) | exact HB.out)⟩⟩
             rw [if_neg c42] at H
             have c42b0 : decide (x10_5 ≤ 4) = false := decide_eq_false c42
             clear c42
             replace H := Option.bind_eq_some_iff.mp H
             obtain ⟨t127, A430, H⟩ := H
             try dsimp only at H
             have A43 := Aside0.mk A430
             clear A430
             by_cases c44 : t127 < 0
             ·rw [if_pos c44] at H
              have c44b0 : decide (t127 < 0) = true := decide_eq_true c44
              clear c44
              simp only [Option.some.injEq, Prod.mk.injEq] at H
              obtain ⟨rfl, rfl⟩ := H
              go_wp2_with (first | ((with_reducible refine gate_callee (f := 164) rfl ?_); refine goesL_ (some 83) rfl rfl Tryd.func164 (by kernel_rfl) rfl #[.string (rdOf ByteArray.empty x4_10 (ji18))] rfl (by (try simp only [List.map_toArray, List.map_cons, List.map_nil]); first | done | (simp only [hji18]; rfl) | rfl | (simp only [List.length_drop, List.length_take]; rfl)) ?_; (with_reducible refine (r02_Part.calls k5 (rdOf ByteArray.empty x4_10 (ji18)) t127 _ A43.out).mono ?_); rintro e w45 ⟨rfl, hb⟩; refine ⟨_, rfl, ?_⟩; replace HB := Aside0.mk (below_step (bel_later HB.out) hb); (try clear hb); (try clear hb2); (try clear hk); (try clear hi)))
              go_ret2
              exact ⟨by first | rfl | (simp [errW_none, errW_some] <;> rfl) | (simp only [← hji18]; first | rfl | (simp [errW_none, errW_some] <;> rfl)) | (simp [*, errW_none, errW_some] <;> rfl), by repeat (first | (with_reducible first | exact HB.out | apply below_alloc | apply pw_below_drewN | apply below_drew1) | exact HB.out)⟩
             rw [if_neg c44] at H
             have c44b0 : decide (t127 < 0) = false := decide_eq_false c44
             clear c44
             by_cases c46 : t127 ≥ x9_5
             ·rw [if_pos c46] at H
              have c46b0 : decide (x9_5 ≤ t127) = true := decide_eq_true c46
              clear c46
              simp only [Option.some.injEq, Prod.mk.injEq] at H
              obtain ⟨rfl, rfl⟩ := H
              go_wp2_with (first | ((with_reducible refine gate_callee (f := 164) rfl ?_); refine goesL_ (some 83) rfl rfl Tryd.func164 (by kernel_rfl) rfl #[.string (rdOf ByteArray.empty x4_10 (ji18))] rfl (by (try simp only [List.map_toArray, List.map_cons, List.map_nil]); first | done | (simp only [hji18]; rfl) | rfl | (simp only [List.length_drop, List.length_take]; rfl)) ?_; (with_reducible refine (r02_Part.calls k5 (rdOf ByteArray.empty x4_10 (ji18)) t127 _ A43.out).mono ?_); rintro e w47 ⟨rfl, hb⟩; refine ⟨_, rfl, ?_⟩; replace HB := Aside0.mk (below_step (bel_later HB.out) hb); (try clear hb); (try clear hb2); (try clear hk); (try clear hi)))
              go_ret2
              exact ⟨by first | rfl | (simp [errW_none, errW_some] <;> rfl) | (simp only [← hji18]; first | rfl | (simp [errW_none, errW_some] <;> rfl)) | (simp [*, errW_none, errW_some] <;> rfl), by repeat (first | (with_reducible first | exact HB.out | apply below_alloc | apply pw_below_drewN | apply below_drew1) | exact HB.out)⟩
             rw [if_neg c46] at H
             have c46b0 : decide (x9_5 ≤ t127) = false := decide_eq_false c46
             clear c46
             simp only [Option.some.injEq, Prod.mk.injEq] at H
             obtain ⟨rfl, rfl⟩ := H
             go_wp2_with (first | ((with_reducible refine gate_callee (f := 164) rfl ?_); refine goesL_ (some 83) rfl rfl Tryd.func164 (by kernel_rfl) rfl #[.string (rdOf ByteArray.empty x4_10 (ji18))] rfl (by (try simp only [List.map_toArray, List.map_cons, List.map_nil]); first | done | (simp only [hji18]; rfl) | rfl | (simp only [List.length_drop, List.length_take]; rfl)) ?_; (with_reducible refine (r02_Part.calls k5 (rdOf ByteArray.empty x4_10 (ji18)) t127 _ A43.out).mono ?_); rintro e w48 ⟨rfl, hb⟩; refine ⟨_, rfl, ?_⟩; replace HB := Aside0.mk (below_step (bel_later HB.out) hb); (try clear hb); (try clear hb2); (try clear hk); (try clear hi)))
             go_ret2
             exact ⟨by first | rfl | (simp [errW_none, errW_some] <;> rfl) | (simp only [← hji18]; first | rfl | (simp [errW_none, errW_some] <;> rfl)) | (simp [*, errW_none, errW_some] <;> rfl), by repeat (first | (with_reducible first | exact HB.out | apply below_alloc | apply pw_below_drewN | apply below_drew1) | exact HB.out)⟩
      rw [if_neg c20] at H
      exact absurd H (by simp)
     rw [if_neg c19] at H
     exact absurd H (by simp)


/-! ### r13_Text: function 50 -/
def r13_Text.f (k : Nat) (a0_0 : ByteArray) (a0_1 : ByteArray) (a0_2 : Int) : Option (ByteArray) := (r13_Port.f a0_0).bind fun t172 => (if a0_2 = t172 then (if a0_0.size + 3 ≤ 9223372036854775807 then (if (a0_0 ++ (⟨#[58, 47, 47]⟩ : ByteArray)).size + a0_1.size ≤ 9223372036854775807 then (some ((a0_0 ++ (⟨#[58, 47, 47]⟩ : ByteArray)) ++ a0_1)) else (none)) else (none)) else (if a0_0.size + 3 ≤ 9223372036854775807 then (if (a0_0 ++ (⟨#[58, 47, 47]⟩ : ByteArray)).size + a0_1.size ≤ 9223372036854775807 then (if ((a0_0 ++ (⟨#[58, 47, 47]⟩ : ByteArray)) ++ a0_1).size + 1 ≤ 9223372036854775807 then ((r01_Decimal.f k a0_2).bind fun t173 => (if (((a0_0 ++ (⟨#[58, 47, 47]⟩ : ByteArray)) ++ a0_1) ++ (⟨#[58]⟩ : ByteArray)).size + t173.size ≤ 9223372036854775807 then (some ((((a0_0 ++ (⟨#[58, 47, 47]⟩ : ByteArray)) ++ a0_1) ++ (⟨#[58]⟩ : ByteArray)) ++ t173)) else (none))) else (none)) else (none)) else (none)))
def r13_Text.T3 : Bool × List (List Nat × List Nat) := (true, [([], []), ([0], [0]), ([1], [1]), ([], []), ([3], [3]), ([2, 4], [2, 4]), ([5], [5]), ([], []), ([7], [7]), ([8], [8]), ([6, 9], [6, 9]), ([10, 9, 0, 1, 2, 3, 4, 5, 6, 7, 8, 9, 10], [10])])
def r13_Text.B3 : List Nat := [0, 1, 3, 0, 8, 31, 63, 0, 128, 384, 1023, 2047]
theorem r13_Text.tab3 : rtab .any (opsOf Tryd.f50 3) = r13_Text.T3 := by kernel_rfl
theorem r13_Text.bits3 : waitsOk r13_Text.T3.2 r13_Text.B3 = true := by kernel_rfl
set_option maxHeartbeats 8000000 in
set_option maxRecDepth 100000 in
theorem r13_Text.calls (k : Nat) (a0_0 : ByteArray) (a0_1 : ByteArray) (a0_2 : Int) (r : ByteArray) (w : World) (h : r13_Text.f k a0_0 a0_1 a0_2 = some r) :
  Calls Tryd.prog 50 #[.agg #[.string a0_0, .string a0_1, .int .i64 a0_2]] w fun e w' => e = .returned (.string r) ∧ Below w.heap.size w w' := by
 have hu43 := Tryd.underlying43
 have HB := Aside0.mk (Below.refl w.heap.size w)
 have H := h
 unfold r13_Text.f at H
 clear h
 replace H := Option.bind_eq_some_iff.mp H
 obtain ⟨t172, A20, H⟩ := H
 try dsimp only at H
 have A2 := Aside0.mk A20
 clear A20
 by_cases c3 : a0_2 = t172
 ·rw [if_pos c3] at H
  have c3b0 : (a0_2 == t172) = true := beq_iff_eq.mpr c3
  have c3b1 : (a0_2 != t172) = false := bne_eq_false_iff_eq.mpr c3
  clear c3
  by_cases c4 : a0_0.size + 3 ≤ 9223372036854775807
  ·rw [if_pos c4] at H
   have c4b0 := eq_true c4
   have c4b1 : decide (a0_0.size + 3 ≤ 9223372036854775807) = true := decide_eq_true c4
   try have c4b2 : (9223372036854775807 < a0_0.size + 3) = False := eq_false (Nat.not_lt.2 c4)
   by_cases c5 : (a0_0 ++ (⟨#[58, 47, 47]⟩ : ByteArray)).size + a0_1.size ≤ 9223372036854775807
   ·rw [if_pos c5] at H
    have c5b0 := eq_true c5
    have c5b1 : decide ((a0_0 ++ (⟨#[58, 47, 47]⟩ : ByteArray)).size + a0_1.size ≤ 9223372036854775807) = true := decide_eq_true c5
    try have c5b2 : (9223372036854775807 < (a0_0 ++ (⟨#[58, 47, 47]⟩ : ByteArray)).size + a0_1.size) = False := eq_false (Nat.not_lt.2 c5)
    try (have c5b4 := c5b2; simp only [ByteArray.size_append, show (⟨#[58, 47, 47]⟩ : ByteArray).size = 3 from rfl] at c5b4)
    obtain rfl := Option.some.inj H
    go_enter Tryd.func50, Tryd.ntmps50
    try go_wp2_with (first | ((with_reducible refine gate_dst (N := 1) rfl ?_); refine box_event ?hg (N := 1) ?hd (cs := #[.string a0_0, .string a0_1, .int .i64 a0_2]) (t := 43) ?hr ?_; (case hd => rfl); (case hg => rfl); (case hr => first | (go_simp; done) | (go_simp; rfl)); intro gb171 hg w6 hbox hb; have BK171 := Aside0.mk (hbox); have GW171 := Aside0.mk ((by rw [hg]; exact (below_size (bel_later HB.out)) : w.heap.size ≤ gb171)); have GE171 := Aside0.mk ((by rw [hg]; exact (below_size (bel_later HB.out)) : w.heap.size ≤ gb171)); replace HB := Aside0.mk (below_step (bel_later HB.out) hb); clear hb hbox hg))
    replace BK171 := Aside0.mk (blk_drew BK171.out)
    replace HB := Aside0.mk (below_drew1 HB.out)
    refine start_ (n := 6) (S := fun w' => w'.cell? ⟨gb171, 0, none⟩ = some (.string a0_0) ∧ w'.cell? ⟨gb171, 1, none⟩ = some (.string a0_1) ∧ w'.cell? ⟨gb171, 2, none⟩ = some (.int .i64 a0_2)) (ds := []) #[false, false, false, false, false, false] (by kernel_rfl) rfl rfl (by and_intros <;> exact (blk_cell BK171.out _).trans rfl) (fun hHeld => ?_)
    generalize w6.drew = w7 at BK171 HB hHeld ⊢
    refine pure_ (i := 0) (N := some 3) (v := ?_) (a' := ?_) #[true, false, false, false, false, false] rfl rfl (by kernel_rfl) (fun _ _ _ h => h) (Or.inl ⟨by rfl, ?_⟩) ?_ ?_
    rotate_left
    ·intro w'
     go_simp
     with_reducible rfl
    rotate_left
    ·simp only [Act.put, List.setIfInBounds_toArray, List.set_cons_zero, List.set_cons_succ, i64_w, i32_w]
     rfl
    refine pure_ (i := 2) (N := some 5) (v := ?_) (a' := ?_) #[true, false, true, false, false, false] rfl rfl (by kernel_rfl) (fun _ _ _ h => h) (Or.inl ⟨by rfl, ?_⟩) ?_ ?_
    rotate_left
    ·intro w'
     go_simp
     with_reducible rfl
    rotate_left
    ·simp only [Act.put, List.setIfInBounds_toArray, List.set_cons_zero, List.set_cons_succ, i64_w, i32_w]
     rfl
    refine take_ (i := 1) (N := some 4) (v := ?_) (a' := ?_) #[true, true, true, false, false, false] rfl rfl (by kernel_rfl) (fun _ _ _ h => h) (Or.inl ⟨by rfl, ?_⟩) hHeld ?_ ?_
    rotate_left
    ·rintro w' ⟨s0, s1, s2⟩
     go_simp
     with_reducible rfl
    rotate_left
    ·simp only [Act.put, List.setIfInBounds_toArray, List.set_cons_zero, List.set_cons_succ, i64_w, i32_w]
     rfl
    refine take_ (i := 3) (N := some 6) (v := ?_) (a' := ?_) #[true, true, true, true, false, false] rfl rfl (by kernel_rfl) (fun _ _ _ h => h) (Or.inl ⟨by rfl, ?_⟩) hHeld ?_ ?_
    rotate_left
    ·rintro w' ⟨s0, s1, s2⟩
     go_simp
     with_reducible rfl
    rotate_left
    ·simp only [Act.put, List.setIfInBounds_toArray, List.set_cons_zero, List.set_cons_succ, i64_w, i32_w]
     rfl
    refine one_ (i := 4) (N := some 7) #[true, true, true, true, true, false] rfl rfl (by kernel_rfl) (by decide) (fun K hK => ?_)
    refine goes_ Tryd.func89 (by kernel_rfl) rfl #[.string a0_0] (by rfl) rfl rfl (by (try simp only [List.map_toArray, List.map_cons, List.map_nil]); first | done | rfl) ?_
    with_reducible refine (r13_Port.calls a0_0 t172 _ A2.out).mono ?_
    rintro e w' ⟨rfl, ⟨nd, rfl⟩⟩
    refine ⟨_, rfl, ?_⟩
    refine hK.out _ _ (by and_intros <;> exact (blk_cell BK171.out _).trans rfl) (fun hHeld => ?_)
    clear hK K
    refine norm_ (a' := ?_) ?_ ?_
    rotate_left
    ·show Act.put _ (some 7) _ = _
     simp only [Act.put, List.setIfInBounds_toArray, List.set_cons_zero, List.set_cons_succ, i64_w, i32_w]
     rfl
    refine pure_ (i := 5) (N := some 8) (v := ?_) (a' := ?_) #[true, true, true, true, true, true] rfl rfl (by kernel_rfl) (fun _ _ _ h => h) (Or.inl ⟨by rfl, ?_⟩) ?_ ?_
    rotate_left
    ·intro w'
     go_simp
     with_reducible rfl
    rotate_left
    ·simp only [Act.put, List.setIfInBounds_toArray, List.set_cons_zero, List.set_cons_succ, i64_w, i32_w]
     rfl
    refine done_ (by kernel_rfl) ?_
    have hq1 := fun j => blk_cell BK171.out j
    have hq2 := fun j => blk_frozen BK171.out j
    try go_wp2
    go_ret
    exact ⟨by first | rfl | (simp [errW_none, errW_some] <;> rfl) | (simp [*, errW_none, errW_some] <;> rfl), by repeat (first | (with_reducible first | exact HB.out | apply below_alloc | apply pw_below_drewN | apply below_drew1 | refine below_set ?_ GE171.out) | exact HB.out)⟩
   rw [if_neg c5] at H
   exact absurd H (by simp)
  rw [if_neg c4] at H
  exact absurd H (by simp)
 rw [if_neg c3] at H
 have c3b0 : (a0_2 == t172) = false := beq_eq_false_iff_ne.mpr c3
 have c3b1 : (a0_2 != t172) = true := bne_iff_ne.mpr c3
 by_cases c9 : a0_0.size + 3 ≤ 9223372036854775807
 ·rw [if_pos c9] at H
  have c9b0 := eq_true c9
  have c9b1 : decide (a0_0.size + 3 ≤ 9223372036854775807) = true := decide_eq_true c9
  try have c9b2 : (9223372036854775807 < a0_0.size + 3) = False := eq_false (Nat.not_lt.2 c9)
  by_cases c10 : (a0_0 ++ (⟨#[58, 47, 47]⟩ : ByteArray)).size + a0_1.size ≤ 9223372036854775807
  ·rw [if_pos c10] at H
   have c10b0 := eq_true c10
   have c10b1 : decide ((a0_0 ++ (⟨#[58, 47, 47]⟩ : ByteArray)).size + a0_1.size ≤ 9223372036854775807) = true := decide_eq_true c10
   try have c10b2 : (9223372036854775807 < (a0_0 ++ (⟨#[58, 47, 47]⟩ : ByteArray)).size + a0_1.size) = False := eq_false (Nat.not_lt.2 c10)
   try (have c10b4 := c10b2; simp only [ByteArray.size_append, show (⟨#[58, 47, 47]⟩ : ByteArray).size = 3 from rfl] at c10b4)
   by_cases c11 : ((a0_0 ++ (⟨#[58, 47, 47]⟩ : ByteArray)) ++ a0_1).size + 1 ≤ 9223372036854775807
   ·rw [if_pos c11] at H
    have c11b0 := eq_true c11
    have c11b1 : decide (((a0_0 ++ (⟨#[58, 47, 47]⟩ : ByteArray)) ++ a0_1).size + 1 ≤ 9223372036854775807) = true := decide_eq_true c11
    try have c11b2 : (9223372036854775807 < ((a0_0 ++ (⟨#[58, 47, 47]⟩ : ByteArray)) ++ a0_1).size + 1) = False := eq_false (Nat.not_lt.2 c11)
    try (have c11b4 := c11b2; simp only [ByteArray.size_append, show (⟨#[58, 47, 47]⟩ : ByteArray).size = 3 from rfl] at c11b4)
    replace H := Option.bind_eq_some_iff.mp H
    obtain ⟨t173, A120, H⟩ := H
    try dsimp only at H
    have A12 := Aside0.mk A120
    clear A120
    by_cases c13 : (((a0_0 ++ (⟨#[58, 47, 47]⟩ : ByteArray)) ++ a0_1) ++ (⟨#[58]⟩ : ByteArray)).size + t173.size ≤ 9223372036854775807
    ·rw [if_pos c13] at H
     have c13b0 := eq_true c13
     have c13b1 : decide ((((a0_0 ++ (⟨#[58, 47, 47]⟩ : ByteArray)) ++ a0_1) ++ (⟨#[58]⟩ : ByteArray)).size + t173.size ≤ 9223372036854775807) = true := decide_eq_true c13
     try have c13b2 : (9223372036854775807 < (((a0_0 ++ (⟨#[58, 47, 47]⟩ : ByteArray)) ++ a0_1) ++ (⟨#[58]⟩ : ByteArray)).size + t173.size) = False := eq_false (Nat.not_lt.2 c13)
     try (have c13b4 := c13b2; simp only [ByteArray.size_append, show (⟨#[58]⟩ : ByteArray).size = 1 from rfl, show (⟨#[58, 47, 47]⟩ : ByteArray).size = 3 from rfl] at c13b4)
     obtain rfl := Option.some.inj H
     go_enter Tryd.func50, Tryd.ntmps50
     try go_wp2_with (first | ((with_reducible refine gate_dst (N := 1) rfl ?_); refine box_event ?hg (N := 1) ?hd (cs := #[.string a0_0, .string a0_1, .int .i64 a0_2]) (t := 43) ?hr ?_; (case hd => rfl); (case hg => rfl); (case hr => first | (go_simp; done) | (go_simp; rfl)); intro gb171 hg w14 hbox hb; have BK171 := Aside0.mk (hbox); have GW171 := Aside0.mk ((by rw [hg]; exact (below_size (bel_later HB.out)) : w.heap.size ≤ gb171)); have GE171 := Aside0.mk ((by rw [hg]; exact (below_size (bel_later HB.out)) : w.heap.size ≤ gb171)); replace HB := Aside0.mk (below_step (bel_later HB.out) hb); clear hb hbox hg))
     replace BK171 := Aside0.mk (blk_drew BK171.out)
     replace HB := Aside0.mk (below_drew1 HB.out)
     refine start_ (n := 6) (S := fun w' => w'.cell? ⟨gb171, 0, none⟩ = some (.string a0_0) ∧ w'.cell? ⟨gb171, 1, none⟩ = some (.string a0_1) ∧ w'.cell? ⟨gb171, 2, none⟩ = some (.int .i64 a0_2)) (ds := []) #[false, false, false, false, false, false] (by kernel_rfl) rfl rfl (by and_intros <;> exact (blk_cell BK171.out _).trans rfl) (fun hHeld => ?_)
     generalize w14.drew = w15 at BK171 HB hHeld ⊢
     refine pure_ (i := 0) (N := some 3) (v := ?_) (a' := ?_) #[true, false, false, false, false, false] rfl rfl (by kernel_rfl) (fun _ _ _ h => h) (Or.inl ⟨by rfl, ?_⟩) ?_ ?_
     rotate_left
     ·intro w'
      go_simp
      with_reducible rfl
     rotate_left
     ·simp only [Act.put, List.setIfInBounds_toArray, List.set_cons_zero, List.set_cons_succ, i64_w, i32_w]
      rfl
     refine pure_ (i := 2) (N := some 5) (v := ?_) (a' := ?_) #[true, false, true, false, false, false] rfl rfl (by kernel_rfl) (fun _ _ _ h => h) (Or.inl ⟨by rfl, ?_⟩) ?_ ?_
     rotate_left
     ·intro w'
      go_simp
      with_reducible rfl
     rotate_left
     ·simp only [Act.put, List.setIfInBounds_toArray, List.set_cons_zero, List.set_cons_succ, i64_w, i32_w]
      rfl
     refine take_ (i := 1) (N := some 4) (v := ?_) (a' := ?_) #[true, true, true, false, false, false] rfl rfl (by kernel_rfl) (fun _ _ _ h => h) (Or.inl ⟨by rfl, ?_⟩) hHeld ?_ ?_
     rotate_left
     ·rintro w' ⟨s0, s1, s2⟩
      go_simp
      with_reducible rfl
     rotate_left
     ·simp only [Act.put, List.setIfInBounds_toArray, List.set_cons_zero, List.set_cons_succ, i64_w, i32_w]
      rfl
     refine take_ (i := 3) (N := some 6) (v := ?_) (a' := ?_) #[true, true, true, true, false, false] rfl rfl (by kernel_rfl) (fun _ _ _ h => h) (Or.inl ⟨by rfl, ?_⟩) hHeld ?_ ?_
     rotate_left
     ·rintro w' ⟨s0, s1, s2⟩
      go_simp
      with_reducible rfl
     rotate_left
     ·simp only [Act.put, List.setIfInBounds_toArray, List.set_cons_zero, List.set_cons_succ, i64_w, i32_w]
      rfl
     refine one_ (i := 4) (N := some 7) #[true, true, true, true, true, false] rfl rfl (by kernel_rfl) (by decide) (fun K hK => ?_)
     refine goes_ Tryd.func89 (by kernel_rfl) rfl #[.string a0_0] (by rfl) rfl rfl (by (try simp only [List.map_toArray, List.map_cons, List.map_nil]); first | done | rfl) ?_
     with_reducible refine (r13_Port.calls a0_0 t172 _ A2.out).mono ?_
     rintro e w' ⟨rfl, ⟨nd, rfl⟩⟩
     refine ⟨_, rfl, ?_⟩
     refine hK.out _ _ (by and_intros <;> exact (blk_cell BK171.out _).trans rfl) (fun hHeld => ?_)
     clear hK K
     refine norm_ (a' := ?_) ?_ ?_
     rotate_left
     ·show Act.put _ (some 7) _ = _
      simp only [Act.put, List.setIfInBounds_toArray, List.set_cons_zero, List.set_cons_succ, i64_w, i32_w]
      rfl
     refine pure_ (i := 5) (N := some 8) (v := ?_) (a' := ?_) #[true, true, true, true, true, true] rfl rfl (by kernel_rfl) (fun _ _ _ h => h) (Or.inl ⟨by rfl, ?_⟩) ?_ ?_
     rotate_left
     ·intro w'
      go_simp
      with_reducible rfl
     rotate_left
     ·simp only [Act.put, List.setIfInBounds_toArray, List.set_cons_zero, List.set_cons_succ, i64_w, i32_w]
      rfl
     refine done_ (by kernel_rfl) ?_
     try go_wp2
     (try (rw [drewN_self w15]; generalize hq_ : World.drewN w15 _ = w15; have n0_ : Aside0 (w15.heap[gb171]? = some (.cells #[.string a0_0, .string a0_1, .int .i64 a0_2] 43 (0, 0))) := ⟨by rw [← hq_]; exact (blk_later BK171.out)⟩; have n1_ : Aside0 (Below w.heap.size w w15) := ⟨by rw [← hq_]; exact (bel_later HB.out)⟩; clear BK171 HB hq_; have BK171 := n0_; have HB := n1_; clear n0_ n1_))
     replace BK171 := Aside0.mk (blk_drew BK171.out)
     replace HB := Aside0.mk (below_drew1 HB.out)
     refine start_ (n := 12) (S := fun w' => w'.cell? ⟨gb171, 0, none⟩ = some (.string a0_0) ∧ w'.cell? ⟨gb171, 1, none⟩ = some (.string a0_1) ∧ w'.cell? ⟨gb171, 2, none⟩ = some (.int .i64 a0_2)) (ds := []) #[false, false, false, false, false, false, false, false, false, false, false, false] (by kernel_rfl) rfl rfl (by and_intros <;> exact (blk_cell BK171.out _).trans rfl) (fun hHeld => ?_); refine with_tabW r13_Text.tab3 r13_Text.bits3 (fun HT_ HW_ => ?_)
     generalize w15.drew = w16 at BK171 HB hHeld ⊢
     refine pure_ (i := 0) (N := some 15) (v := ?_) (a' := ?_) #[true, false, false, false, false, false, false, false, false, false, false, false] rfl rfl (any_of HT_.out (by kernel_rfl)) (fun _ _ _ h => h) (Or.inl ⟨by rfl, ?_⟩) ?_ ?_
     rotate_left
     ·intro w'
      go_simp
      with_reducible rfl
     rotate_left
     ·simp only [Act.put, List.setIfInBounds_toArray, List.set_cons_zero, List.set_cons_succ, i64_w, i32_w]
      rfl
     refine pure_ (i := 3) (N := some 18) (v := ?_) (a' := ?_) #[true, false, false, true, false, false, false, false, false, false, false, false] rfl rfl (any_of HT_.out (by kernel_rfl)) (fun _ _ _ h => h) (Or.inl ⟨by rfl, ?_⟩) ?_ ?_
     rotate_left
     ·intro w'
      go_simp
      with_reducible rfl
     rotate_left
     ·simp only [Act.put, List.setIfInBounds_toArray, List.set_cons_zero, List.set_cons_succ, i64_w, i32_w]
      rfl
     refine pure_ (i := 7) (N := some 22) (v := ?_) (a' := ?_) #[true, false, false, true, false, false, false, true, false, false, false, false] rfl rfl (any_of HT_.out (by kernel_rfl)) (fun _ _ _ h => h) (Or.inl ⟨by rfl, ?_⟩) ?_ ?_
     rotate_left
     ·intro w'
      go_simp
      with_reducible rfl
     rotate_left
     ·simp only [Act.put, List.setIfInBounds_toArray, List.set_cons_zero, List.set_cons_succ, i64_w, i32_w]
      rfl
     refine take_ (i := 1) (N := some 16) (v := ?_) (a' := ?_) #[true, true, false, true, false, false, false, true, false, false, false, false] rfl rfl (take_ofW HT_.out HW_.out (by kernel_rfl)) (fun _ _ _ h => h) (Or.inl ⟨by rfl, ?_⟩) hHeld ?_ ?_
     rotate_left
     ·rintro w' ⟨s0, s1, s2⟩
      go_simp
      with_reducible rfl
     rotate_left
     ·simp only [Act.put, List.setIfInBounds_toArray, List.set_cons_zero, List.set_cons_succ, i64_w, i32_w]
      rfl
     refine pure_ (i := 2) (N := some 17) (v := ?_) (a' := ?_) #[true, true, true, true, false, false, false, true, false, false, false, false] rfl rfl (any_of HT_.out (by kernel_rfl)) (fun _ _ _ h => h) (Or.inl ⟨by rfl, ?_⟩) ?_ ?_
     rotate_left
     ·intro w'
      go_simp
      with_reducible rfl
     rotate_left
     ·simp only [Act.put, List.setIfInBounds_toArray, List.set_cons_zero, List.set_cons_succ, i64_w, i32_w]
      rfl
     refine take_ (i := 4) (N := some 19) (v := ?_) (a' := ?_) #[true, true, true, true, true, false, false, true, false, false, false, false] rfl rfl (take_ofW HT_.out HW_.out (by kernel_rfl)) (fun _ _ _ h => h) (Or.inl ⟨by rfl, ?_⟩) hHeld ?_ ?_
     rotate_left
     ·rintro w' ⟨s0, s1, s2⟩
      go_simp
      with_reducible rfl
     rotate_left
     ·simp only [Act.put, List.setIfInBounds_toArray, List.set_cons_zero, List.set_cons_succ, i64_w, i32_w]
      rfl
     refine pure_ (i := 5) (N := some 20) (v := ?_) (a' := ?_) #[true, true, true, true, true, true, false, true, false, false, false, false] rfl rfl (any_of HT_.out (by kernel_rfl)) (fun _ _ _ h => h) (Or.inl ⟨by rfl, ?_⟩) ?_ ?_
     rotate_left
     ·intro w'
      go_simp
      with_reducible rfl
     rotate_left
     ·simp only [Act.put, List.setIfInBounds_toArray, List.set_cons_zero, List.set_cons_succ, i64_w, i32_w]
      rfl
     refine pure_ (i := 6) (N := some 21) (v := ?_) (a' := ?_) #[true, true, true, true, true, true, true, true, false, false, false, false] rfl rfl (any_of HT_.out (by kernel_rfl)) (fun _ _ _ h => h) (Or.inl ⟨by rfl, ?_⟩) ?_ ?_
     rotate_left
     ·intro w'
      go_simp
      with_reducible rfl
     rotate_left
     ·simp only [Act.put, List.setIfInBounds_toArray, List.set_cons_zero, List.set_cons_succ, i64_w, i32_w]
      rfl
     refine take_ (i := 8) (N := some 23) (v := ?_) (a' := ?_) #[true, true, true, true, true, true, true, true, true, false, false, false] rfl rfl (take_ofW HT_.out HW_.out (by kernel_rfl)) (fun _ _ _ h => h) (Or.inl ⟨by rfl, ?_⟩) hHeld ?_ ?_
     rotate_left
     ·rintro w' ⟨s0, s1, s2⟩
      go_simp
      with_reducible rfl
     rotate_left
     ·simp only [Act.put, List.setIfInBounds_toArray, List.set_cons_zero, List.set_cons_succ, i64_w, i32_w]
      rfl
     refine one_ (i := 9) (N := some 24) #[true, true, true, true, true, true, true, true, true, true, false, false] rfl rfl (one_of HT_.out (by kernel_rfl)) (by decide) (fun K hK => ?_)
     refine goes_ Tryd.func30 (by kernel_rfl) rfl #[.int .i64 a0_2] (by rfl) rfl rfl (by (try simp only [List.map_toArray, List.map_cons, List.map_nil]); first | done | rfl) ?_
     with_reducible refine (r01_Decimal.calls k a0_2 t173 _ A12.out).mono ?_
     rintro e w17 ⟨rfl, hb⟩
     refine ⟨_, rfl, ?_⟩
     replace BK171 := Aside0.mk (blk_below (blk_later BK171.out) hb)
     replace HB := Aside0.mk (below_step (bel_later HB.out) hb)
     (try clear hb)
     (try clear hb2)
     (try clear hk)
     (try clear hi)
     refine hK.out _ _ (by and_intros <;> exact (blk_cell BK171.out _).trans rfl) (fun hHeld => ?_)
     clear hK K
     refine norm_ (a' := ?_) ?_ ?_
     rotate_left
     ·show Act.put _ (some 24) _ = _
      simp only [Act.put, List.setIfInBounds_toArray, List.set_cons_zero, List.set_cons_succ, i64_w, i32_w]
      rfl
     refine pure_ (i := 10) (N := some 25) (v := ?_) (a' := ?_) #[true, true, true, true, true, true, true, true, true, true, true, false] rfl rfl (any_of HT_.out (by kernel_rfl)) (fun _ _ _ h => h) (Or.inl ⟨by rfl, ?_⟩) ?_ ?_
     rotate_left
     ·intro w'
      go_simp
      with_reducible rfl
     rotate_left
     ·simp only [Act.put, List.setIfInBounds_toArray, List.set_cons_zero, List.set_cons_succ, i64_w, i32_w]
      rfl
     refine pure_ (i := 11) (N := some 2) (v := ?_) (a' := ?_) #[true, true, true, true, true, true, true, true, true, true, true, true] rfl rfl (any_of HT_.out (by kernel_rfl)) (fun _ _ _ h => h) (Or.inl ⟨by rfl, ?_⟩) ?_ ?_
     rotate_left
     ·intro w'
      go_simp
      with_reducible rfl
     rotate_left
     ·simp only [Act.put, List.setIfInBounds_toArray, List.set_cons_zero, List.set_cons_succ, i64_w, i32_w]
      rfl
     refine done_ (done_of HT_.out (by kernel_rfl)) ?_
     try go_wp2
     go_ret
     exact ⟨by first | rfl | (simp [errW_none, errW_some] <;> rfl) | (simp [*, errW_none, errW_some] <;> rfl), by repeat (first | (with_reducible first | exact HB.out | apply below_alloc | apply pw_below_drewN | apply below_drew1 | refine below_set ?_ GE171.out) | exact HB.out)⟩
    rw [if_neg c13] at H
    exact absurd H (by simp)
   rw [if_neg c11] at H
   exact absurd H (by simp)
  rw [if_neg c10] at H
  exact absurd H (by simp)
 rw [if_neg c9] at H
 exact absurd H (by simp)


/-! ### r17_has: function 52 -/
def r17_has.l0 : Nat → List ByteArray → ByteArray → Int → Option (Bool)
 | 0, _, _, _ => none
 | k + 1, x0, x1, x5 => if x5 < (x0.length : Int) then (if 0 ≤ x5 then (if (rdOf ByteArray.empty x0 x5).toList = x1.toList then (some true) else (r17_has.l0 k x0 x1 (wrap64 (x5 + 1)))) else (none)) else (some false)
def r17_has.f (k : Nat) (l0 : List ByteArray) (a1 : ByteArray) : Option (Bool) := r17_has.l0 k l0 a1 0
set_option maxHeartbeats 8000000 in
set_option maxRecDepth 100000 in
theorem r17_has.calls (k : Nat) (A0 : Option Addr) (c0 : Nat) (l0 : List ByteArray) (a1 : ByteArray) (r : Bool) (w : World) (hr0 : Kd.C Kd.string w A0 l0.length l0) (hc0 : l0.length ≤ c0) (h : r17_has.f k l0 a1 = some r) :
  Calls Tryd.prog 52 #[.slice A0 l0.length c0, .string a1] w fun e w' => e = .returned (.bool r) ∧ Drawn0 w w' := by
 have HR0 := Aside0.mk hr0
 have HC0 := Aside0.mk hc0
 clear hr0 hc0
 have H := h
 unfold r17_has.f at H
 clear h
 have H' := Aside0.mk H
 clear H
 go_enter Tryd.func52, Tryd.ntmps52
 go_wp2
 go_loopg [5] k (fun kq v5 w' => ∃ (x5_1 : Int), v5 = .int .i64 x5_1 ∧ Aside0 (r17_has.l0 kq l0 a1 x5_1 = some r) ∧ Aside0 (kq ≤ k) ∧ Drawn0 w w')
 case atStart => exact ⟨(0), (by first | rfl | (simp [bne, *]; done) | (simp; done)), H', ⟨Nat.le_refl _⟩, by repeat (first | exact Drawn0.refl _ | apply Drawn0.step)⟩
 case round =>
  clear H'
  try clear p2
  obtain ⟨x5_1, rfl, HA, HK1, ⟨m1, rfl⟩⟩ := hrel
  cases gk with
  | zero => exact absurd HA.out (by simp [r17_has.l0])
  | succ k1 =>
   have H := HA.out
   clear HA
   simp only [r17_has.l0] at H
   by_cases c3 : x5_1 < (l0.length : Int)
   ·rw [if_pos c3] at H
    have c3b0 : decide (x5_1 < (l0.length : Int)) = true := decide_eq_true c3
    clear c3
    by_cases c4 : 0 ≤ x5_1
    ·rw [if_pos c4] at H
     have c4b0 : decide (0 ≤ x5_1) = true := decide_eq_true c4
     clear c4
     by_cases c5 : (rdOf ByteArray.empty l0 x5_1).toList = a1.toList
     ·rw [if_pos c5] at H
      have c5b0 : ((rdOf ByteArray.empty l0 x5_1).toList == a1.toList) = true := beq_iff_eq.mpr c5
      have c5b1 : ((rdOf ByteArray.empty l0 x5_1).toList != a1.toList) = false := bne_eq_false_iff_eq.mpr c5
      clear c5
      obtain rfl := Option.some.inj H
      have p171 : 0 ≤ (x5_1 : Int) := of_decide_eq_true (by first | (with_reducible assumption) | assumption)
      have q171 : x5_1 < (l0.length : Int) := of_decide_eq_true (by first | (with_reducible assumption) | assumption)
      obtain ⟨ad171, e171, hx171_0⟩ := Kd.at_string HR0.out x5_1 p171 q171
      cases e171
      replace p171 := eq_true p171
      replace q171 := eq_true q171
      go_wp2
      go_ret
      exact ⟨by first | rfl | (simp [bne, *]; done) | (simp; done), by repeat (first | exact Drawn0.refl _ | apply Drawn0.step)⟩
     rw [if_neg c5] at H
     have c5b0 : ((rdOf ByteArray.empty l0 x5_1).toList == a1.toList) = false := beq_eq_false_iff_ne.mpr c5
     have c5b1 : ((rdOf ByteArray.empty l0 x5_1).toList != a1.toList) = true := bne_iff_ne.mpr c5
     have H' := Aside0.mk H
     clear H
     have p171 : 0 ≤ (x5_1 : Int) := of_decide_eq_true (by first | (with_reducible assumption) | assumption)
     have q171 : x5_1 < (l0.length : Int) := of_decide_eq_true (by first | (with_reducible assumption) | assumption)
     obtain ⟨ad171, e171, hx171_0⟩ := Kd.at_string HR0.out x5_1 p171 q171
     cases e171
     replace p171 := eq_true p171
     replace q171 := eq_true q171
     go_wp2
     go_roundg k1
     case measure => have := HK1.out; omega
     case rel => exact ⟨(wrap64 (x5_1 + 1)), (by first | rfl | (simp [bne, *]; done) | (simp; done)), H', ⟨by have := HK1.out; omega⟩, by repeat (first | exact Drawn0.refl _ | apply Drawn0.step)⟩
    rw [if_neg c4] at H
    exact absurd H (by simp)
   rw [if_neg c3] at H
   have c3b0 : decide (x5_1 < (l0.length : Int)) = false := decide_eq_false c3
   clear c3
   obtain rfl := Option.some.inj H
   go_wp2
   go_ret
   exact ⟨by first | rfl | (simp [bne, *]; done) | (simp; done), by repeat (first | exact Drawn0.refl _ | apply Drawn0.step)⟩

/-! ### r17_Host: function 24 -/
def r17_Host.f (k : Nat) (a0_0 : ByteArray) (a0_1 : ByteArray) (a0_2 : Int) (a0_3 : ByteArray) (a0_4 : ByteArray) : Option (ByteArray) := (r13_Origin.f a0_0 a0_1 a0_2 a0_3 a0_4).bind fun bt173 => ((r13_Text.f k bt173.1 bt173.2.1 bt173.2.2).bind fun t176 => (if 0 ≤ (wrap64 ((a0_0.size : Int) + 3)) then (if (wrap64 ((a0_0.size : Int) + 3)) ≤ (t176.size : Int) then (some (t176.extract ((wrap64 ((a0_0.size : Int) + 3)) : Int).toNat t176.size)) else (none)) else (none)))
set_option maxHeartbeats 8000000 in
set_option maxRecDepth 100000 in
theorem r17_Host.calls (k : Nat) (a0_0 : ByteArray) (a0_1 : ByteArray) (a0_2 : Int) (a0_3 : ByteArray) (a0_4 : ByteArray) (r : ByteArray) (w : World) (h : r17_Host.f k a0_0 a0_1 a0_2 a0_3 a0_4 = some r) :
  Calls Tryd.prog 24 #[.agg #[.string a0_0, .string a0_1, .int .i64 a0_2, .string a0_3, .string a0_4]] w fun e w' => e = .returned (.string r) ∧ Below w.heap.size w w' := by
 have hu45 := Tryd.underlying45
 have HB := Aside0.mk (Below.refl w.heap.size w)
 have H := h
 unfold r17_Host.f at H
 clear h
 replace H := Option.bind_eq_some_iff.mp H
 obtain ⟨⟨t173, t174, t175⟩, A20, H⟩ := H
 try dsimp only at H
 have A2 := Aside0.mk A20
 clear A20
 replace H := Option.bind_eq_some_iff.mp H
 obtain ⟨t176, A30, H⟩ := H
 try dsimp only at H
 have A3 := Aside0.mk A30
 clear A30
 obtain ⟨ji4, hji4⟩ : ∃ j_ : Int, (wrap64 ((a0_0.size : Int) + 3)) = j_ := ⟨_, rfl⟩
 replace H : (if 0 ≤ (ji4) then (if (ji4) ≤ (t176.size : Int) then (some (t176.extract ((ji4) : Int).toNat t176.size)) else (none)) else (none)) = some r := by first | (rw [hji4] at H; exact H) | (simp only [hji4] at H ⊢; exact H)
 (try rw [hji4] at A2)
 (try rw [hji4] at A3)
 have hji4w : (IntKind.i64.wrap ((a0_0.size : Int) + 3)) = ji4 := (i64_w _).trans hji4
 by_cases c5 : 0 ≤ (ji4)
 ·rw [if_pos c5] at H
  have c5b0 := eq_true c5
  have c5b1 : decide (0 ≤ (ji4)) = true := decide_eq_true c5
  clear c5
  by_cases c6 : (ji4) ≤ (t176.size : Int)
  ·rw [if_pos c6] at H
   have c6b0 := eq_true c6
   have c6b1 : decide ((ji4) ≤ (t176.size : Int)) = true := decide_eq_true c6
   clear c6
   obtain rfl := Option.some.inj H
   go_enter Tryd.func24, Tryd.ntmps24
   go_wp2_with (first | ((with_reducible refine gate_dst (N := 1) rfl ?_); refine box_event ?hg (N := 1) ?hd (cs := #[.string a0_0, .string a0_1, .int .i64 a0_2, .string a0_3, .string a0_4]) (t := 45) ?hr ?_; (case hd => rfl); (case hg => rfl); (case hr => first | (go_simp; done) | (go_simp; rfl)); intro gb172 hg w7 hbox hb; have BK172 := Aside0.mk (hbox); have GW172 := Aside0.mk ((by rw [hg]; exact (below_size (bel_later HB.out)) : w.heap.size ≤ gb172)); have GE172 := Aside0.mk ((by rw [hg]; exact (below_size (bel_later HB.out)) : w.heap.size ≤ gb172)); replace HB := Aside0.mk (below_step (bel_later HB.out) hb); clear hb hbox hg; have hq1 := fun j => blk_cell BK172.out j; have hq10 := fun j => blk_frozen BK172.out j) | ((with_reducible refine gate_callee (f := 59) rfl ?_); refine goesL_ (some 5) rfl rfl Tryd.func59 (by kernel_rfl) rfl #[.agg #[.string a0_0, .string a0_1, .int .i64 a0_2, .string a0_3, .string a0_4]] rfl (by (try simp only [List.map_toArray, List.map_cons, List.map_nil]); first | done | rfl) ?_; (with_reducible refine (r13_Origin.calls a0_0 a0_1 a0_2 a0_3 a0_4 t173 t174 t175 _ A2.out).mono ?_); rintro e w9 ⟨rfl, hb⟩; refine ⟨_, rfl, ?_⟩; replace BK172 := Aside0.mk (blk_below (blk_later BK172.out) hb); replace HB := Aside0.mk (below_step (bel_later HB.out) hb); (try clear hb); (try clear hb2); (try clear hk); (try clear hi)) | ((with_reducible refine gate_callee (f := 50) rfl ?_); refine goesL_ (some 6) rfl rfl Tryd.func50 (by kernel_rfl) rfl #[.agg #[.string t173, .string t174, .int .i64 t175]] rfl (by (try simp only [List.map_toArray, List.map_cons, List.map_nil]); first | done | rfl) ?_; (with_reducible refine (r13_Text.calls k t173 t174 t175 t176 _ A3.out).mono ?_); rintro e w10 ⟨rfl, hb⟩; refine ⟨_, rfl, ?_⟩; replace BK172 := Aside0.mk (blk_below (blk_later BK172.out) hb); replace HB := Aside0.mk (below_step (bel_later HB.out) hb); (try clear hb); (try clear hb2); (try clear hk); (try clear hi); have hq2 := fun j => blk_cell BK172.out j; have hq11 := fun j => blk_frozen BK172.out j))
   go_ret
   exact ⟨by first | rfl | (simp [errW_none, errW_some] <;> rfl) | (simp only [← hji4]; first | rfl | (simp [errW_none, errW_some] <;> rfl)) | (simp [*, errW_none, errW_some] <;> rfl), by repeat (first | (with_reducible first | exact HB.out | apply below_alloc | apply pw_below_drewN | apply below_drew1 | refine below_set ?_ GE172.out) | exact HB.out)⟩
  rw [if_neg c6] at H
  exact absurd H (by simp)
 rw [if_neg c5] at H
 exact absurd H (by simp)

/-! ### r17_Request: function 20 -/
def r17_Request.l0 : Nat → List (S25) → List ByteArray → Int → ByteArray → ByteArray → Int → ByteArray → ByteArray → Int → ByteArray → ByteArray → ByteArray → List ByteArray → Bool → Option (ByteArray × ByteArray × (List (S25)))
 | 0, _, _, _, _, _, _, _, _, _, _, _, _, _, _ => none
 | k + 1, x3, x4, x5, x178000, x178001, x178002, x178003, x178004, x178005, x178006, x178007, x178008, x178009, x178010 => if x5 < (x178009.length : Int) then (if 0 ≤ x5 then ((r01_Lower.f k (rdOf ByteArray.empty x178009 x5)).bind fun t185 => ((r17_has.f k x4 t185).bind fun t186 => (if t186 = true then (r17_Request.l0 k x3 x4 (wrap64 (x5 + 1)) x178000 x178001 x178002 x178003 x178004 x178005 x178006 x178007 x178008 x178009 x178010) else (if x4.length < 8796093022208 then (r17_Request.l0 k x3 (x4 ++ [t185]) (wrap64 (x5 + 1)) x178000 x178001 x178002 x178003 x178004 x178005 x178006 x178007 x178008 x178009 x178010) else (none))))) else (none)) else (if (x4.length : Int) > 0 then ((r01_Join.f k x4 (⟨#[44]⟩ : ByteArray)).bind fun t190 => (if x3.length < 4398046511104 then ((some (x3 ++ [(⟨(⟨#[65, 99, 99, 101, 115, 115, 45, 67, 111, 110, 116, 114, 111, 108, 45, 82, 101, 113, 117, 101, 115, 116, 45, 72, 101, 97, 100, 101, 114, 115]⟩ : ByteArray), t190⟩ : S25)] : List (S25))).bind fun y191 => (if x178010 = true then (if y191.length < 4398046511104 then (if x178006.size + x178007.size ≤ 9223372036854775807 then (some ((⟨#[79, 80, 84, 73, 79, 78, 83]⟩ : ByteArray), x178006 ++ x178007, (y191 ++ [(⟨(⟨#[65, 99, 99, 101, 115, 115, 45, 67, 111, 110, 116, 114, 111, 108, 45, 82, 101, 113, 117, 101, 115, 116, 45, 80, 114, 105, 118, 97, 116, 101, 45, 78, 101, 116, 119, 111, 114, 107]⟩ : ByteArray), (⟨#[116, 114, 117, 101]⟩ : ByteArray)⟩ : S25)]))) else (none)) else (none)) else (if x178006.size + x178007.size ≤ 9223372036854775807 then (some ((⟨#[79, 80, 84, 73, 79, 78, 83]⟩ : ByteArray), x178006 ++ x178007, y191)) else (none)))) else (none))) else (if x178010 = true then (if x3.length < 4398046511104 then (if x178006.size + x178007.size ≤ 9223372036854775807 then (some ((⟨#[79, 80, 84, 73, 79, 78, 83]⟩ : ByteArray), x178006 ++ x178007, (x3 ++ [(⟨(⟨#[65, 99, 99, 101, 115, 115, 45, 67, 111, 110, 116, 114, 111, 108, 45, 82, 101, 113, 117, 101, 115, 116, 45, 80, 114, 105, 118, 97, 116, 101, 45, 78, 101, 116, 119, 111, 114, 107]⟩ : ByteArray), (⟨#[116, 114, 117, 101]⟩ : ByteArray)⟩ : S25)]))) else (none)) else (none)) else (if x178006.size + x178007.size ≤ 9223372036854775807 then (some ((⟨#[79, 80, 84, 73, 79, 78, 83]⟩ : ByteArray), x178006 ++ x178007, x3)) else (none))))
def r17_Request.f (k : Nat) (a0_0 : ByteArray) (a0_1 : ByteArray) (a0_2 : Int) (a0_3 : ByteArray) (a0_4 : ByteArray) (a0_5 : Int) (a0_6 : ByteArray) (a0_7 : ByteArray) (a0_8 : ByteArray) (l0_9 : List ByteArray) (a0_10 : Bool) : Option (ByteArray × ByteArray × (List (S25))) := (r17_Host.f k a0_3 a0_4 a0_5 a0_6 a0_7).bind fun t179 => ((r13_Text.f k a0_0 a0_1 a0_2).bind fun t180 => (r17_Request.l0 k (([(⟨(⟨#[72, 111, 115, 116]⟩ : ByteArray), t179⟩ : S25), (⟨(⟨#[79, 114, 105, 103, 105, 110]⟩ : ByteArray), t180⟩ : S25), (⟨(⟨#[65, 99, 99, 101, 115, 115, 45, 67, 111, 110, 116, 114, 111, 108, 45, 82, 101, 113, 117, 101, 115, 116, 45, 77, 101, 116, 104, 111, 100]⟩ : ByteArray), a0_8⟩ : S25)] : List (S25))) ([] : List ByteArray) 0 a0_0 a0_1 a0_2 a0_3 a0_4 a0_5 a0_6 a0_7 a0_8 l0_9 a0_10))
def r17_Request.T1 : Bool × List (List Nat × List Nat) := (true, [([], []), ([0], [0]), ([1], [1]), ([2], [2]), ([], []), ([4], [4]), ([5, 2], [5]), ([6], [6]), ([], []), ([8], [8]), ([9], [9]), ([3, 7, 10], [3, 7, 10]), ([11, 6, 0, 1, 2, 3, 4, 5, 6, 7, 8, 9, 10, 11], [11])])
def r17_Request.B1 : List Nat := [0, 1, 3, 7, 0, 16, 55, 119, 0, 256, 768, 2047, 4095]
theorem r17_Request.tab1 : rtab .any (opsOf Tryd.f20 1) = r17_Request.T1 := by kernel_rfl
theorem r17_Request.bits1 : waitsOk r17_Request.T1.2 r17_Request.B1 = true := by kernel_rfl
set_option maxHeartbeats 8000000 in
set_option maxRecDepth 100000 in
theorem r17_Request.calls (k : Nat) (a0_0 : ByteArray) (a0_1 : ByteArray) (a0_2 : Int) (a0_3 : ByteArray) (a0_4 : ByteArray) (a0_5 : Int) (a0_6 : ByteArray) (a0_7 : ByteArray) (a0_8 : ByteArray) (A0_9 : Option Addr) (c0_9 : Nat) (l0_9 : List ByteArray) (a0_10 : Bool) (r1 : ByteArray) (r2 : ByteArray) (r3 : List (S25)) (w : World) (hr0_9 : Kd.C Kd.string w A0_9 l0_9.length l0_9) (hc0_9 : l0_9.length ≤ c0_9) (h : r17_Request.f k a0_0 a0_1 a0_2 a0_3 a0_4 a0_5 a0_6 a0_7 a0_8 l0_9 a0_10 = some (r1, r2, r3)) :
  Calls Tryd.prog 20 #[.agg #[.string a0_0, .string a0_1, .int .i64 a0_2, .string a0_3, .string a0_4, .int .i64 a0_5, .string a0_6, .string a0_7, .string a0_8, .slice A0_9 l0_9.length c0_9, .bool a0_10]] w fun e w' => ∃ v2_ : Value, e = .returned (.agg #[.string r1, .string r2, v2_]) ∧ Kd.R k25 25 w' w.heap.size (fun _ => True) v2_ r3 ∧ Below w.heap.size w w' := by
 have hu48 := Tryd.underlying48
 have hu52 := Tryd.underlying52
 have hu45 := Tryd.underlying45
 have hu25 := Tryd.underlying25
 have hu43 := Tryd.underlying43
 have HR0_9 := Aside0.mk hr0_9
 have HC0_9 := Aside0.mk hc0_9
 clear hr0_9 hc0_9
 have HB := Aside0.mk (Below.refl w.heap.size w)
 have H := h
 unfold r17_Request.f at H
 clear h
 replace H := Option.bind_eq_some_iff.mp H
 obtain ⟨t179, A20, H⟩ := H
 try dsimp only at H
 have A2 := Aside0.mk A20
 clear A20
 replace H := Option.bind_eq_some_iff.mp H
 obtain ⟨t180, A30, H⟩ := H
 try dsimp only at H
 have A3 := Aside0.mk A30
 clear A30
 obtain ⟨y181, hy181⟩ : ∃ y_ : List (S25), y_ = (([(⟨(⟨#[72, 111, 115, 116]⟩ : ByteArray), t179⟩ : S25), (⟨(⟨#[79, 114, 105, 103, 105, 110]⟩ : ByteArray), t180⟩ : S25), (⟨(⟨#[65, 99, 99, 101, 115, 115, 45, 67, 111, 110, 116, 114, 111, 108, 45, 82, 101, 113, 117, 101, 115, 116, 45, 77, 101, 116, 104, 111, 100]⟩ : ByteArray), a0_8⟩ : S25)] : List (S25))) := ⟨_, rfl⟩
 replace H : (r17_Request.l0 k y181 ([] : List ByteArray) 0 a0_0 a0_1 a0_2 a0_3 a0_4 a0_5 a0_6 a0_7 a0_8 l0_9 a0_10) = some (r1, r2, r3) := by first | (rw [hy181]; with_reducible exact H) | (have H2_ := (Option.bind_some _ _).symm.trans H; rw [hy181]; with_reducible exact H2_) | (have H2_ := (Option.bind_some _ _).symm.trans H; with_reducible exact H2_) | with_reducible exact H | (rw [hy181]; exact H) | exact H
 have Ny181 := Aside0.mk hy181
 clear hy181
 have H' := Aside0.mk H
 clear H
 go_enter Tryd.func20, Tryd.ntmps20
 try go_wp2_with (first | ((with_reducible refine gate_dst (N := 1) rfl ?_); refine box_event ?hg (N := 1) ?hd (cs := #[.string a0_0, .string a0_1, .int .i64 a0_2, .string a0_3, .string a0_4, .int .i64 a0_5, .string a0_6, .string a0_7, .string a0_8, .slice A0_9 l0_9.length c0_9, .bool a0_10]) (t := 48) ?hr ?_; (case hd => rfl); (case hg => rfl); (case hr => first | (go_simp; done) | (go_simp; rfl)); intro gb177 hg w4 hbox hb; have BK177 := Aside0.mk (hbox); have GW177 := Aside0.mk ((by rw [hg]; exact (below_size (bel_later HB.out)) : w.heap.size ≤ gb177)); have GE177 := Aside0.mk ((by rw [hg]; exact (below_size (bel_later HB.out)) : w.heap.size ≤ gb177)); replace HB := Aside0.mk (below_step (bel_later HB.out) hb); clear hb hbox hg) | ((with_reducible refine gate_dst (N := 2) rfl ?_); refine box_event ?hg (N := 2) ?hd (cs := #[.string (⟨#[]⟩ : ByteArray), .string (⟨#[]⟩ : ByteArray), .slice none 0 0]) (t := 52) ?hr ?_; (case hd => rfl); (case hg => rfl); (case hr => first | (go_simp; done) | (go_simp; rfl)); intro gb178 hg w5 hbox hb; have BK178 := Aside0.mk (hbox); have GW178 := Aside0.mk ((by rw [hg]; exact (below_size (bel_later HB.out)) : w.heap.size ≤ gb178)); have GE178 := Aside0.mk ((by rw [hg]; exact (below_size (bel_later HB.out)) : w.heap.size ≤ gb178)); have NB177_178 := Aside0.mk ((by rw [hg]; exact Nat.ne_of_lt (blk_lt (blk_later BK177.out)) : gb177 ≠ gb178)); have NB178_177 := Aside0.mk ((by rw [hg]; exact Nat.ne_of_gt (blk_lt (blk_later BK177.out)) : gb178 ≠ gb177)); replace BK177 := Aside0.mk (blk_below (blk_later BK177.out) hb); replace HB := Aside0.mk (below_step (bel_later HB.out) hb); clear hb hbox hg))
 replace BK177 := Aside0.mk (blk_drew BK177.out)
 replace BK178 := Aside0.mk (blk_drew BK178.out)
 replace HB := Aside0.mk (below_drew1 HB.out)
 refine start_ (n := 13) (S := fun w' => w'.cell? ⟨gb177, 0, none⟩ = some (.string a0_0) ∧ w'.cell? ⟨gb177, 1, none⟩ = some (.string a0_1) ∧ w'.cell? ⟨gb177, 2, none⟩ = some (.int .i64 a0_2) ∧ w'.cell? ⟨gb177, 3, none⟩ = some (.string a0_3) ∧ w'.cell? ⟨gb177, 4, none⟩ = some (.string a0_4) ∧ w'.cell? ⟨gb177, 5, none⟩ = some (.int .i64 a0_5) ∧ w'.cell? ⟨gb177, 6, none⟩ = some (.string a0_6) ∧ w'.cell? ⟨gb177, 7, none⟩ = some (.string a0_7) ∧ w'.cell? ⟨gb177, 8, none⟩ = some (.string a0_8) ∧ w'.cell? ⟨gb177, 9, none⟩ = some (.slice A0_9 l0_9.length c0_9) ∧ w'.cell? ⟨gb177, 10, none⟩ = some (.bool a0_10)) (ds := []) #[false, false, false, false, false, false, false, false, false, false, false, false, false] (by kernel_rfl) rfl rfl (by and_intros <;> exact (blk_cell BK177.out _).trans rfl) (fun hHeld => ?_); refine with_tabW r17_Request.tab1 r17_Request.bits1 (fun HT_ HW_ => ?_)
 generalize w5.drew = w6 at BK177 BK178 HB hHeld ⊢
 refine pure_ (i := 0) (N := some 8) (v := ?_) (a' := ?_) #[true, false, false, false, false, false, false, false, false, false, false, false, false] rfl rfl (any_of HT_.out (by kernel_rfl)) (fun _ _ _ h => h) (Or.inl ⟨by rfl, ?_⟩) ?_ ?_
 rotate_left
 ·intro w'
  go_simp
  with_reducible rfl
 rotate_left
 ·simp only [Act.put, List.setIfInBounds_toArray, List.set_cons_zero, List.set_cons_succ, i64_w, i32_w]
  rfl
 refine pure_ (i := 4) (N := some 12) (v := ?_) (a' := ?_) #[true, false, false, false, true, false, false, false, false, false, false, false, false] rfl rfl (any_of HT_.out (by kernel_rfl)) (fun _ _ _ h => h) (Or.inl ⟨by rfl, ?_⟩) ?_ ?_
 rotate_left
 ·intro w'
  go_simp
  with_reducible rfl
 rotate_left
 ·simp only [Act.put, List.setIfInBounds_toArray, List.set_cons_zero, List.set_cons_succ, i64_w, i32_w]
  rfl
 refine pure_ (i := 8) (N := some 16) (v := ?_) (a' := ?_) #[true, false, false, false, true, false, false, false, true, false, false, false, false] rfl rfl (any_of HT_.out (by kernel_rfl)) (fun _ _ _ h => h) (Or.inl ⟨by rfl, ?_⟩) ?_ ?_
 rotate_left
 ·intro w'
  go_simp
  with_reducible rfl
 rotate_left
 ·simp only [Act.put, List.setIfInBounds_toArray, List.set_cons_zero, List.set_cons_succ, i64_w, i32_w]
  rfl
 refine take_ (i := 1) (N := some 9) (v := ?_) (a' := ?_) #[true, true, false, false, true, false, false, false, true, false, false, false, false] rfl rfl (take_ofW HT_.out HW_.out (by kernel_rfl)) (fun _ _ _ h => h) (Or.inl ⟨by rfl, ?_⟩) hHeld ?_ ?_
 rotate_left
 ·rintro w' ⟨s0, s1, s2, s3, s4, s5, s6, s7, s8, s9, s10⟩
  go_simp
  with_reducible rfl
 rotate_left
 ·simp only [Act.put, List.setIfInBounds_toArray, List.set_cons_zero, List.set_cons_succ, i64_w, i32_w]
  rfl
 refine take_ (i := 5) (N := some 13) (v := ?_) (a' := ?_) #[true, true, false, false, true, true, false, false, true, false, false, false, false] rfl rfl (take_ofW HT_.out HW_.out (by kernel_rfl)) (fun _ _ _ h => h) (Or.inl ⟨by rfl, ?_⟩) hHeld ?_ ?_
 rotate_left
 ·rintro w' ⟨s0, s1, s2, s3, s4, s5, s6, s7, s8, s9, s10⟩
  go_simp
  with_reducible rfl
 rotate_left
 ·simp only [Act.put, List.setIfInBounds_toArray, List.set_cons_zero, List.set_cons_succ, i64_w, i32_w]
  rfl
 refine take_ (i := 9) (N := some 17) (v := ?_) (a' := ?_) #[true, true, false, false, true, true, false, false, true, true, false, false, false] rfl rfl (take_ofW HT_.out HW_.out (by kernel_rfl)) (fun _ _ _ h => h) (Or.inl ⟨by rfl, ?_⟩) hHeld ?_ ?_
 rotate_left
 ·rintro w' ⟨s0, s1, s2, s3, s4, s5, s6, s7, s8, s9, s10⟩
  go_simp
  with_reducible rfl
 rotate_left
 ·simp only [Act.put, List.setIfInBounds_toArray, List.set_cons_zero, List.set_cons_succ, i64_w, i32_w]
  rfl
 refine pure_ (i := 10) (N := some 18) (v := ?_) (a' := ?_) #[true, true, false, false, true, true, false, false, true, true, true, false, false] rfl rfl (any_of HT_.out (by kernel_rfl)) (fun _ _ _ h => h) (Or.inl ⟨by rfl, ?_⟩) ?_ ?_
 rotate_left
 ·intro w'
  go_simp
  with_reducible rfl
 rotate_left
 ·simp only [Act.put, List.setIfInBounds_toArray, List.set_cons_zero, List.set_cons_succ, i64_w, i32_w]
  rfl
 refine one_ (i := 2) (N := some 10) #[true, true, true, false, true, true, false, false, true, true, true, false, false] rfl rfl (one_of HT_.out (by kernel_rfl)) (by decide) (fun K hK => ?_)
 refine goes_ Tryd.func24 (by kernel_rfl) rfl #[.agg #[.string a0_3, .string a0_4, .int .i64 a0_5, .string a0_6, .string a0_7]] (by rfl) rfl rfl (by (try simp only [List.map_toArray, List.map_cons, List.map_nil]); first | done | rfl) ?_
 with_reducible refine (r17_Host.calls k a0_3 a0_4 a0_5 a0_6 a0_7 t179 _ A2.out).mono ?_
 rintro e w7 ⟨rfl, hb⟩
 refine ⟨_, rfl, ?_⟩
 replace BK177 := Aside0.mk (blk_below (blk_later BK177.out) hb)
 replace BK178 := Aside0.mk (blk_below (blk_later BK178.out) hb)
 replace HB := Aside0.mk (below_step (bel_later HB.out) hb)
 (try clear hb)
 (try clear hb2)
 (try clear hk)
 (try clear hi)
 refine hK.out _ _ (by and_intros <;> exact (blk_cell BK177.out _).trans rfl) (fun hHeld => ?_)
 clear hK K
 refine norm_ (a' := ?_) ?_ ?_
 rotate_left
 ·show Act.put _ (some 10) _ = _
  simp only [Act.put, List.setIfInBounds_toArray, List.set_cons_zero, List.set_cons_succ, i64_w, i32_w]
  rfl
 refine pure_ (i := 3) (N := some 11) (v := ?_) (a' := ?_) #[true, true, true, true, true, true, false, false, true, true, true, false, false] rfl rfl (any_of HT_.out (by kernel_rfl)) (fun _ _ _ h => h) (Or.inl ⟨by rfl, ?_⟩) ?_ ?_
 rotate_left
 ·intro w'
  go_simp
  with_reducible rfl
 rotate_left
 ·simp only [Act.put, List.setIfInBounds_toArray, List.set_cons_zero, List.set_cons_succ, i64_w, i32_w]
  rfl
 refine one_ (i := 6) (N := some 14) #[true, true, true, true, true, true, true, false, true, true, true, false, false] rfl rfl (one_of HT_.out (by kernel_rfl)) (by decide) (fun K hK => ?_)
 refine goes_ Tryd.func50 (by kernel_rfl) rfl #[.agg #[.string a0_0, .string a0_1, .int .i64 a0_2]] (by rfl) rfl rfl (by (try simp only [List.map_toArray, List.map_cons, List.map_nil]); first | done | rfl) ?_
 with_reducible refine (r13_Text.calls k a0_0 a0_1 a0_2 t180 _ A3.out).mono ?_
 rintro e w8 ⟨rfl, hb⟩
 refine ⟨_, rfl, ?_⟩
 replace BK177 := Aside0.mk (blk_below (blk_later BK177.out) hb)
 replace BK178 := Aside0.mk (blk_below (blk_later BK178.out) hb)
 replace HB := Aside0.mk (below_step (bel_later HB.out) hb)
 (try clear hb)
 (try clear hb2)
 (try clear hk)
 (try clear hi)
 refine hK.out _ _ (by and_intros <;> exact (blk_cell BK177.out _).trans rfl) (fun hHeld => ?_)
 clear hK K
 refine norm_ (a' := ?_) ?_ ?_
 rotate_left
 ·show Act.put _ (some 14) _ = _
  simp only [Act.put, List.setIfInBounds_toArray, List.set_cons_zero, List.set_cons_succ, i64_w, i32_w]
  rfl
 refine pure_ (i := 7) (N := some 15) (v := ?_) (a' := ?_) #[true, true, true, true, true, true, true, true, true, true, true, false, false] rfl rfl (any_of HT_.out (by kernel_rfl)) (fun _ _ _ h => h) (Or.inl ⟨by rfl, ?_⟩) ?_ ?_
 rotate_left
 ·intro w'
  go_simp
  with_reducible rfl
 rotate_left
 ·simp only [Act.put, List.setIfInBounds_toArray, List.set_cons_zero, List.set_cons_succ, i64_w, i32_w]
  rfl
 refine one_ (i := 11) (N := some 19) #[true, true, true, true, true, true, true, true, true, true, true, true, false] rfl rfl (one_of HT_.out (by kernel_rfl)) (by decide) (fun K hK => ?_)
 refine Kd.R_lit_step k25 _ 25 ?hg (N := 19) ?hd (xs := ([(⟨(⟨#[72, 111, 115, 116]⟩ : ByteArray), t179⟩ : S25), (⟨(⟨#[79, 114, 105, 103, 105, 110]⟩ : ByteArray), t180⟩ : S25), (⟨(⟨#[65, 99, 99, 101, 115, 115, 45, 67, 111, 110, 116, 114, 111, 108, 45, 82, 101, 113, 117, 101, 115, 116, 45, 77, 101, 116, 104, 111, 100]⟩ : ByteArray), a0_8⟩ : S25)] : List (S25))) (inner := [.string (⟨#[72, 111, 115, 116]⟩ : ByteArray), .string t179, .string (⟨#[79, 114, 105, 103, 105, 110]⟩ : ByteArray), .string t180, .string (⟨#[65, 99, 99, 101, 115, 115, 45, 67, 111, 110, 116, 114, 111, 108, 45, 82, 101, 113, 117, 101, 115, 116, 45, 77, 101, 116, 104, 111, 100]⟩ : ByteArray), .string a0_8]) (ok := fun _ => True) (okp := fun _ => True) ?hr ?hp (fun _ hk => hk) trivial (Below.refl _ _) (Nat.le_refl _) (by simp) ?_; (case hd => rfl); (case hg => rfl); (case hr => first | (go_simp; done) | (go_simp; rfl)); (case hp => exact (Reps.c2 (show Kd.M k25 _ _ _ (⟨(⟨#[72, 111, 115, 116]⟩ : ByteArray), t179⟩ : S25) [.string (⟨#[72, 111, 115, 116]⟩ : ByteArray), .string t179] from (k25_mkM _ _ _ (⟨(⟨#[72, 111, 115, 116]⟩ : ByteArray), t179⟩ : S25) )) (Reps.c2 (show Kd.M k25 _ _ _ (⟨(⟨#[79, 114, 105, 103, 105, 110]⟩ : ByteArray), t180⟩ : S25) [.string (⟨#[79, 114, 105, 103, 105, 110]⟩ : ByteArray), .string t180] from (k25_mkM _ _ _ (⟨(⟨#[79, 114, 105, 103, 105, 110]⟩ : ByteArray), t180⟩ : S25) )) (Reps.c2 (show Kd.M k25 _ _ _ (⟨(⟨#[65, 99, 99, 101, 115, 115, 45, 67, 111, 110, 116, 114, 111, 108, 45, 82, 101, 113, 117, 101, 115, 116, 45, 77, 101, 116, 104, 111, 100]⟩ : ByteArray), a0_8⟩ : S25) [.string (⟨#[65, 99, 99, 101, 115, 115, 45, 67, 111, 110, 116, 114, 111, 108, 45, 82, 101, 113, 117, 101, 115, 116, 45, 77, 101, 116, 104, 111, 100]⟩ : ByteArray), .string a0_8] from (k25_mkM _ _ _ (⟨(⟨#[65, 99, 99, 101, 115, 115, 45, 67, 111, 110, 116, 114, 111, 108, 45, 82, 101, 113, 117, 101, 115, 116, 45, 77, 101, 116, 104, 111, 100]⟩ : ByteArray), a0_8⟩ : S25) )) (Reps.none _ _)))))
 intro v182 w9 ho10 hb hg_ hnew_
 clear hg_ hnew_
 (first | rw [← Ny181.out] at ho10 | (simp only [Int.reduceToNat] at ho10; rw [← Ny181.out] at ho10))
 have HO183 := Aside0.mk (Kd.R_lower ho10 (below_size (bel_later HB.out)))
 replace BK177 := Aside0.mk (blk_below (blk_later BK177.out) hb)
 replace BK178 := Aside0.mk (blk_below (blk_later BK178.out) hb)
 replace HB := Aside0.mk (below_step (bel_later HB.out) hb)
 clear hb ho10
 refine hK.out _ _ (by and_intros <;> exact (blk_cell BK177.out _).trans rfl) (fun hHeld => ?_)
 clear hK K
 refine norm_ (a' := ?_) ?_ ?_
 rotate_left
 ·show Act.put _ (some 19) _ = _
  simp only [Act.put, List.setIfInBounds_toArray, List.set_cons_zero, List.set_cons_succ, i64_w, i32_w]
  rfl
 refine pure_ (i := 12) (N := some 3) (v := ?_) (a' := ?_) #[true, true, true, true, true, true, true, true, true, true, true, true, true] rfl rfl (any_of HT_.out (by kernel_rfl)) (fun _ _ _ h => h) (Or.inl ⟨by rfl, ?_⟩) ?_ ?_
 rotate_left
 ·intro w'
  go_simp
  with_reducible rfl
 rotate_left
 ·simp only [Act.put, List.setIfInBounds_toArray, List.set_cons_zero, List.set_cons_succ, i64_w, i32_w]
  rfl
 refine done_ (done_of HT_.out (by kernel_rfl)) ?_
 try go_wp2
 go_loopg [4, 5] k (fun kq v4 v5 w' => ∃ (x4_1 : List ByteArray) (x5_1 : Int), v5 = .int .i64 x5_1 ∧ Aside0 (r17_Request.l0 kq y181 x4_1 x5_1 a0_0 a0_1 a0_2 a0_3 a0_4 a0_5 a0_6 a0_7 a0_8 l0_9 a0_10 = some (r1, r2, r3)) ∧ Aside0 (kq ≤ k) ∧ Aside0 (Kd.R k25 25 w' w.heap.size (fun _ => True) v182 y181) ∧ Aside0 (Kd.R Kd.string 9 w' w.heap.size (fun _ => True) v4 x4_1) ∧ Aside0 (w'.heap[gb177]? = some (.cells #[.string a0_0, .string a0_1, .int .i64 a0_2, .string a0_3, .string a0_4, .int .i64 a0_5, .string a0_6, .string a0_7, .string a0_8, (.slice A0_9 l0_9.length c0_9), .bool a0_10] 48 (0, 0))) ∧ Aside0 (w'.heap[gb178]? = some (.cells #[.string (⟨#[]⟩ : ByteArray), .string (⟨#[]⟩ : ByteArray), (.slice none 0 0)] 52 (0, 0))) ∧ Aside0 (Below w.heap.size w w'))
 case atStart => exact ⟨(([] : List ByteArray)), (0), (by first | rfl | (simp [bne, *]; done) | (simp; done)), H', ⟨Nat.le_refl _⟩, ⟨by (with_reducible repeat (first | apply Kd.R_alloc | apply Kd.R_drewN | apply Kd.R_drew)); exact HO183.out⟩, ⟨by first | exact Kd.R_nil _ _ _ _ _ | exact Kd.N_nil _ _ _ _ _ | exact Kd.V_nil _ _ _ _ _ | exact Kd.Q_nil _ _ _ _ _ | exact Kd.S_nil _ _ _ _ _⟩, ⟨by (with_reducible repeat (first | refine blk_drewN ?_ _ | refine blk_drew ?_ | refine blk_alloc ?_ _)); exact BK177.out⟩, ⟨by (with_reducible repeat (first | refine blk_drewN ?_ _ | refine blk_drew ?_ | refine blk_alloc ?_ _)); exact BK178.out⟩, ⟨by repeat (first | (with_reducible first | exact HB.out | apply below_alloc | apply pw_below_drewN | apply below_drew1 | refine below_set ?_ GE177.out | refine below_set ?_ GE178.out) | exact HB.out)⟩⟩
 case round =>
  clear H'
  try clear c2
  try clear p2
  try clear c5
  obtain ⟨x4_1, x5_1, rfl, HA, HK1, HO_3, HO_4, BK177, BK178, HB⟩ := hrel
  cases gk with
  | zero => exact absurd HA.out (by simp [r17_Request.l0])
  | succ k1 =>
   have H := HA.out
   clear HA
   simp only [r17_Request.l0] at H
   by_cases c11 : x5_1 < (l0_9.length : Int)
   ·rw [if_pos c11] at H
    have c11b0 : decide (x5_1 < (l0_9.length : Int)) = true := decide_eq_true c11
    clear c11
    by_cases c12 : 0 ≤ x5_1
    ·rw [if_pos c12] at H
     have c12b0 : decide (0 ≤ x5_1) = true := decide_eq_true c12
     clear c12
     replace H := Option.bind_eq_some_iff.mp H
     obtain ⟨t185, A130, H⟩ := H
     try dsimp only at H
     have A13 := Aside0.mk A130
     clear A130
     replace H := Option.bind_eq_some_iff.mp H
     obtain ⟨t186, A140, H⟩ := H
     try dsimp only at H
     have A14 := Aside0.mk A140
     clear A140
     by_cases c15 : t186 = true
     ·subst c15
      have H1 : (r17_Request.l0 k1 y181 x4_1 (wrap64 (x5_1 + 1)) a0_0 a0_1 a0_2 a0_3 a0_4 a0_5 a0_6 a0_7 a0_8 l0_9 a0_10) = some (r1, r2, r3) := by rw [if_pos rfl] at H; exact H
      clear H
      have H := H1
      clear H1
      have H' := Aside0.mk H
      clear H
      have hnb16 := NB177_178.out
      have hnc16 := NB178_177.out
      have hcz17_0 : wr.cell? ⟨gb177, 0, none⟩ = some (.string a0_0) := (blk_cell BK177.out 0).trans rfl
      have hcz17_1 : wr.cell? ⟨gb177, 1, none⟩ = some (.string a0_1) := (blk_cell BK177.out 1).trans rfl
      have hcz17_2 : wr.cell? ⟨gb177, 2, none⟩ = some (.int .i64 a0_2) := (blk_cell BK177.out 2).trans rfl
      have hcz17_3 : wr.cell? ⟨gb177, 3, none⟩ = some (.string a0_3) := (blk_cell BK177.out 3).trans rfl
      have hcz17_4 : wr.cell? ⟨gb177, 4, none⟩ = some (.string a0_4) := (blk_cell BK177.out 4).trans rfl
      have hcz17_5 : wr.cell? ⟨gb177, 5, none⟩ = some (.int .i64 a0_5) := (blk_cell BK177.out 5).trans rfl
      have hcz17_6 : wr.cell? ⟨gb177, 6, none⟩ = some (.string a0_6) := (blk_cell BK177.out 6).trans rfl
      have hcz17_7 : wr.cell? ⟨gb177, 7, none⟩ = some (.string a0_7) := (blk_cell BK177.out 7).trans rfl
      have hcz17_8 : wr.cell? ⟨gb177, 8, none⟩ = some (.string a0_8) := (blk_cell BK177.out 8).trans rfl
      have hcz17_9 : wr.cell? ⟨gb177, 9, none⟩ = some (.slice A0_9 l0_9.length c0_9) := (blk_cell BK177.out 9).trans rfl
      have hcz17_10 : wr.cell? ⟨gb177, 10, none⟩ = some (.bool a0_10) := (blk_cell BK177.out 10).trans rfl
      have hq12 := fun j => blk_frozen BK177.out j
      have p184 : 0 ≤ (x5_1 : Int) := of_decide_eq_true (by first | (with_reducible assumption) | assumption)
      have q184 : x5_1 < (l0_9.length : Int) := of_decide_eq_true (by first | (with_reducible assumption) | assumption)
      obtain ⟨ad184, e184, hx184_0⟩ := Kd.at_string HR0_9.out x5_1 p184 q184
      cases e184
      replace hx184_0 := (HB.out.cell (World.block_lt_of_cell? w _ hx184_0)).trans hx184_0
      replace p184 := eq_true p184
      replace q184 := eq_true q184
      go_wp2_with (first | ((with_reducible refine gate_callee (f := 51) rfl ?_); refine goesL_ (some 32) rfl rfl Tryd.func51 (by kernel_rfl) rfl #[.string (rdOf ByteArray.empty l0_9 x5_1)] rfl (by (try simp only [List.map_toArray, List.map_cons, List.map_nil]); first | done | rfl) ?_; (with_reducible refine (r01_Lower.calls k1 (rdOf ByteArray.empty l0_9 x5_1) t185 _ A13.out).mono ?_); rintro e w18 ⟨rfl, hb⟩; refine ⟨_, rfl, ?_⟩; replace HO_3 := Aside0.mk (Kd.R_below (R_later HO_3.out) hb); replace HO_4 := Aside0.mk (Kd.R_below (R_later HO_4.out) hb); replace BK177 := Aside0.mk (blk_below (blk_later BK177.out) hb); replace BK178 := Aside0.mk (blk_below (blk_later BK178.out) hb); replace HB := Aside0.mk (below_step (bel_later HB.out) hb); (try clear hb); (try clear hb2); (try clear hk); (try clear hi); obtain ⟨Ao19, co19, eo19⟩ := Kd.R_slice HO_4.out; subst eo19) | ((with_reducible refine gate_callee (f := 52) rfl ?_); refine goesL_ (some 35) rfl rfl Tryd.func52 (by kernel_rfl) rfl #[.slice Ao19 x4_1.length co19, .string t185] rfl (by (try simp only [List.map_toArray, List.map_cons, List.map_nil]); first | done | rfl) ?_; (with_reducible refine (r17_has.calls k1 _ _ x4_1 t185 true _ ?side1 ?side2 A14.out).mono ?_); (case side1 => repeat (first | exact (Kd.R_reads' HO_4.out).2.2 | (with_reducible refine Kd.C_alloc ?_ _) | (with_reducible refine Kd.C_drewN ?_ _) | (with_reducible refine Kd.C_drew ?_))); (case side2 => exact (Kd.R_reads' HO_4.out).2.1); rintro e w' ⟨rfl, ⟨nd, rfl⟩⟩; refine ⟨_, rfl, ?_⟩))
      go_roundg k1
      case measure => have := HK1.out; omega
      case rel => exact ⟨(x4_1), (wrap64 (x5_1 + 1)), (by first | rfl | (simp [bne, *]; done) | (simp; done)), H', ⟨by have := HK1.out; omega⟩, ⟨by (with_reducible repeat (first | apply Kd.R_alloc | apply Kd.R_drewN | apply Kd.R_drew)); exact HO_3.out⟩, ⟨by (with_reducible repeat (first | apply Kd.R_alloc | apply Kd.R_drewN | apply Kd.R_drew)); exact HO_4.out⟩, ⟨by (with_reducible repeat (first | refine blk_drewN ?_ _ | refine blk_drew ?_ | refine blk_alloc ?_ _)); exact BK177.out⟩, ⟨by (with_reducible repeat (first | refine blk_drewN ?_ _ | refine blk_drew ?_ | refine blk_alloc ?_ _)); exact BK178.out⟩, ⟨by repeat (first | (with_reducible first | exact HB.out | apply below_alloc | apply pw_below_drewN | apply below_drew1 | refine below_set ?_ GE177.out | refine below_set ?_ GE178.out) | exact HB.out)⟩⟩
     replace c15 := Bool.eq_false_iff.mpr c15
     subst c15
     have H1 : (if x4_1.length < 8796093022208 then (r17_Request.l0 k1 y181 (x4_1 ++ [t185]) (wrap64 (x5_1 + 1)) a0_0 a0_1 a0_2 a0_3 a0_4 a0_5 a0_6 a0_7 a0_8 l0_9 a0_10) else (none)) = some (r1, r2, r3) := by rw [if_neg (show ¬ (false = true) by decide)] at H; exact H
     clear H
     have H := H1
     clear H1
     by_cases c20 : x4_1.length < 8796093022208
     ·rw [if_pos c20] at H
      have LMc20 := Aside0.mk c20
      clear c20
      obtain ⟨y187, hy187⟩ : ∃ y_ : List ByteArray, y_ = (x4_1 ++ [t185]) := ⟨_, rfl⟩
      replace H : (r17_Request.l0 k1 y181 y187 (wrap64 (x5_1 + 1)) a0_0 a0_1 a0_2 a0_3 a0_4 a0_5 a0_6 a0_7 a0_8 l0_9 a0_10) = some (r1, r2, r3) := by first | (rw [hy187]; with_reducible exact H) | (have H2_ := (Option.bind_some _ _).symm.trans H; rw [hy187]; with_reducible exact H2_) | (have H2_ := (Option.bind_some _ _).symm.trans H; with_reducible exact H2_) | with_reducible exact H | (rw [hy187]; exact H) | exact H
      have Ny187 := Aside0.mk hy187
      clear hy187
      have H' := Aside0.mk H
      clear H
      have hnb21 := NB177_178.out
      have hnc21 := NB178_177.out
      have hcz22_0 : wr.cell? ⟨gb177, 0, none⟩ = some (.string a0_0) := (blk_cell BK177.out 0).trans rfl
      have hcz22_1 : wr.cell? ⟨gb177, 1, none⟩ = some (.string a0_1) := (blk_cell BK177.out 1).trans rfl
      have hcz22_2 : wr.cell? ⟨gb177, 2, none⟩ = some (.int .i64 a0_2) := (blk_cell BK177.out 2).trans rfl
      have hcz22_3 : wr.cell? ⟨gb177, 3, none⟩ = some (.string a0_3) := (blk_cell BK177.out 3).trans rfl
      have hcz22_4 : wr.cell? ⟨gb177, 4, none⟩ = some (.string a0_4) := (blk_cell BK177.out 4).trans rfl
      have hcz22_5 : wr.cell? ⟨gb177, 5, none⟩ = some (.int .i64 a0_5) := (blk_cell BK177.out 5).trans rfl
      have hcz22_6 : wr.cell? ⟨gb177, 6, none⟩ = some (.string a0_6) := (blk_cell BK177.out 6).trans rfl
      have hcz22_7 : wr.cell? ⟨gb177, 7, none⟩ = some (.string a0_7) := (blk_cell BK177.out 7).trans rfl
      have hcz22_8 : wr.cell? ⟨gb177, 8, none⟩ = some (.string a0_8) := (blk_cell BK177.out 8).trans rfl
      have hcz22_9 : wr.cell? ⟨gb177, 9, none⟩ = some (.slice A0_9 l0_9.length c0_9) := (blk_cell BK177.out 9).trans rfl
      have hcz22_10 : wr.cell? ⟨gb177, 10, none⟩ = some (.bool a0_10) := (blk_cell BK177.out 10).trans rfl
      have hq13 := fun j => blk_frozen BK177.out j
      have p184 : 0 ≤ (x5_1 : Int) := of_decide_eq_true (by first | (with_reducible assumption) | assumption)
      have q184 : x5_1 < (l0_9.length : Int) := of_decide_eq_true (by first | (with_reducible assumption) | assumption)
      obtain ⟨ad184, e184, hx184_0⟩ := Kd.at_string HR0_9.out x5_1 p184 q184
      cases e184
      replace hx184_0 := (HB.out.cell (World.block_lt_of_cell? w _ hx184_0)).trans hx184_0
      replace p184 := eq_true p184
      replace q184 := eq_true q184
      go_wp2_with (first | ((with_reducible refine gate_callee (f := 51) rfl ?_); refine goesL_ (some 32) rfl rfl Tryd.func51 (by kernel_rfl) rfl #[.string (rdOf ByteArray.empty l0_9 x5_1)] rfl (by (try simp only [List.map_toArray, List.map_cons, List.map_nil]); first | done | rfl) ?_; (with_reducible refine (r01_Lower.calls k1 (rdOf ByteArray.empty l0_9 x5_1) t185 _ A13.out).mono ?_); rintro e w23 ⟨rfl, hb⟩; refine ⟨_, rfl, ?_⟩; replace HO_3 := Aside0.mk (Kd.R_below (R_later HO_3.out) hb); replace HO_4 := Aside0.mk (Kd.R_below (R_later HO_4.out) hb); replace BK177 := Aside0.mk (blk_below (blk_later BK177.out) hb); replace BK178 := Aside0.mk (blk_below (blk_later BK178.out) hb); replace HB := Aside0.mk (below_step (bel_later HB.out) hb); (try clear hb); (try clear hb2); (try clear hk); (try clear hi); obtain ⟨Ao24, co24, eo24⟩ := Kd.R_slice HO_4.out; subst eo24) | ((with_reducible refine gate_callee (f := 52) rfl ?_); refine goesL_ (some 35) rfl rfl Tryd.func52 (by kernel_rfl) rfl #[.slice Ao24 x4_1.length co24, .string t185] rfl (by (try simp only [List.map_toArray, List.map_cons, List.map_nil]); first | done | rfl) ?_; (with_reducible refine (r17_has.calls k1 _ _ x4_1 t185 false _ ?side1 ?side2 A14.out).mono ?_); (case side1 => repeat (first | exact (Kd.R_reads' HO_4.out).2.2 | (with_reducible refine Kd.C_alloc ?_ _) | (with_reducible refine Kd.C_drewN ?_ _) | (with_reducible refine Kd.C_drew ?_))); (case side2 => exact (Kd.R_reads' HO_4.out).2.1); rintro e w' ⟨rfl, ⟨nd, rfl⟩⟩; refine ⟨_, rfl, ?_⟩) | ((with_reducible refine gate_builtin (b := .append) (xs := #[.tmp 38, .tmp 40]) rfl ?_); at_builtin; refine Kd.R_append Kd.string (w0 := w) w.heap.size rfl (.tmp 38) (.tmp 40) 37 9 (.string ⟨#[]⟩) 16 rfl Tryd.underlying37 info9 rfl (by decide) (by omega) (.slice Ao24 x4_1.length co24) x4_1 t185 [.string t185] (fun _ => True) (fun _ => False) rfl rfl ?aP (fun _ hk => hk.elim) ?aF ?aO ?aB ?aS ?aL ?_; (case aP => exact rfl); (case aB => exact (bel_later HB.out)); (case aF => exact (fun _ _ => trivial)); (case aO => exact (R_later HO_4.out)); (case aS => exact (below_size (bel_later HB.out))); (case aL => have := LMc20.out; omega); intro v188 w25 ho hb hg hat; rw [← Ny187.out] at ho; have HO189 := Aside0.mk (ho); replace HO_3 := Aside0.mk (Kd.R_over' (R_later HO_3.out) (Kd.R_typed (R_later HO_4.out)) (by decide) hg); replace BK177 := Aside0.mk (blk_grown (g := gb177) (o := .cells #[.string a0_0, .string a0_1, .int .i64 a0_2, .string a0_3, .string a0_4, .int .i64 a0_5, .string a0_6, .string a0_7, .string a0_8, .slice (some ad184) l0_9.length c0_9, .bool a0_10] 48 (0, 0)) (blk_later BK177.out) hg (Kd.R_ne HO_4.out BK177.out (by decide))); replace BK178 := Aside0.mk (blk_grown (g := gb178) (o := .cells #[.string (⟨#[]⟩ : ByteArray), .string (⟨#[]⟩ : ByteArray), .slice none 0 0] 52 (0, 0)) (blk_later BK178.out) hg (Kd.R_ne HO_4.out BK178.out (by decide))); replace HB := Aside0.mk (hb); clear HO_4; clear ho hb hg hat))
      go_roundg k1
      case measure => have := HK1.out; omega
      case rel => exact ⟨(y187), (wrap64 (x5_1 + 1)), (by first | rfl | (simp [bne, *]; done) | (simp; done)), H', ⟨by have := HK1.out; omega⟩, ⟨by (with_reducible repeat (first | apply Kd.R_alloc | apply Kd.R_drewN | apply Kd.R_drew)); exact HO_3.out⟩, ⟨by (with_reducible repeat (first | apply Kd.R_alloc | apply Kd.R_drewN | apply Kd.R_drew)); exact HO189.out⟩, ⟨by (with_reducible repeat (first | refine blk_drewN ?_ _ | refine blk_drew ?_ | refine blk_alloc ?_ _)); exact BK177.out⟩, ⟨by (with_reducible repeat (first | refine blk_drewN ?_ _ | refine blk_drew ?_ | refine blk_alloc ?_ _)); exact BK178.out⟩, ⟨by repeat (first | (with_reducible first | exact HB.out | apply below_alloc | apply pw_below_drewN | apply below_drew1 | refine below_set ?_ GE177.out | refine below_set ?_ GE178.out) | exact HB.out)⟩⟩
     rw [if_neg c20] at H
     exact absurd H (by simp)
    rw [if_neg c12] at H
    exact absurd H (by simp)
   rw [if_neg c11] at H
   have c11b0 : decide (x5_1 < (l0_9.length : Int)) = false := decide_eq_false c11
   clear c11
   by_cases c26 : (x4_1.length : Int) > 0
   ·rw [if_pos c26] at H
    have c26b0 : decide (0 < (x4_1.length : Int)) = true := decide_eq_true c26
    have c26b1 : decide (0 < x4_1.length) = true := decide_eq_true (by omega)
    clear c26
    replace H := Option.bind_eq_some_iff.mp H
    obtain ⟨t190, A270, H⟩ := H
    try dsimp only at H
    have A27 := Aside0.mk A270
    clear A270
    by_cases c28 : y181.length < 4398046511104
    ·rw [if_pos c28] at H
     have LMc28 := Aside0.mk c28
     clear c28
     obtain ⟨y191, hy191⟩ : ∃ y_ : List (S25), y_ = (y181 ++ [(⟨(⟨#[65, 99, 99, 101, 115, 115, 45, 67, 111, 110, 116, 114, 111, 108, 45, 82, 101, 113, 117, 101, 115, 116, 45, 72, 101, 97, 100, 101, 114, 115]⟩ : ByteArray), t190⟩ : S25)]) := ⟨_, rfl⟩
     replace H : (if a0_10 = true then (if y191.length < 4398046511104 then (if a0_6.size + a0_7.size ≤ 9223372036854775807 then (some ((⟨#[79, 80, 84, 73, 79, 78, 83]⟩ : ByteArray), a0_6 ++ a0_7, (y191 ++ [(⟨(⟨#[65, 99, 99, 101, 115, 115, 45, 67, 111, 110, 116, 114, 111, 108, 45, 82, 101, 113, 117, 101, 115, 116, 45, 80, 114, 105, 118, 97, 116, 101, 45, 78, 101, 116, 119, 111, 114, 107]⟩ : ByteArray), (⟨#[116, 114, 117, 101]⟩ : ByteArray)⟩ : S25)]))) else (none)) else (none)) else (if a0_6.size + a0_7.size ≤ 9223372036854775807 then (some ((⟨#[79, 80, 84, 73, 79, 78, 83]⟩ : ByteArray), a0_6 ++ a0_7, y191)) else (none))) = some (r1, r2, r3) := by first | (rw [hy191]; with_reducible exact H) | (have H2_ := (Option.bind_some _ _).symm.trans H; rw [hy191]; with_reducible exact H2_) | (have H2_ := (Option.bind_some _ _).symm.trans H; with_reducible exact H2_) | with_reducible exact H | (rw [hy191]; exact H) | exact H
     have Ny191 := Aside0.mk hy191
     clear hy191
     by_cases c29 : a0_10 = true
     ·subst c29
      have H1 : (if y191.length < 4398046511104 then (if a0_6.size + a0_7.size ≤ 9223372036854775807 then (some ((⟨#[79, 80, 84, 73, 79, 78, 83]⟩ : ByteArray), a0_6 ++ a0_7, (y191 ++ [(⟨(⟨#[65, 99, 99, 101, 115, 115, 45, 67, 111, 110, 116, 114, 111, 108, 45, 82, 101, 113, 117, 101, 115, 116, 45, 80, 114, 105, 118, 97, 116, 101, 45, 78, 101, 116, 119, 111, 114, 107]⟩ : ByteArray), (⟨#[116, 114, 117, 101]⟩ : ByteArray)⟩ : S25)]))) else (none)) else (none)) = some (r1, r2, r3) := by rw [if_pos rfl] at H; exact H
      clear H
      have H := H1
      clear H1
      by_cases c30 : y191.length < 4398046511104
      ·rw [if_pos c30] at H
       have LMc30 := Aside0.mk c30
       clear c30
       obtain ⟨y194, hy194⟩ : ∃ y_ : List (S25), y_ = (y191 ++ [(⟨(⟨#[65, 99, 99, 101, 115, 115, 45, 67, 111, 110, 116, 114, 111, 108, 45, 82, 101, 113, 117, 101, 115, 116, 45, 80, 114, 105, 118, 97, 116, 101, 45, 78, 101, 116, 119, 111, 114, 107]⟩ : ByteArray), (⟨#[116, 114, 117, 101]⟩ : ByteArray)⟩ : S25)]) := ⟨_, rfl⟩
       replace H : (if a0_6.size + a0_7.size ≤ 9223372036854775807 then (some ((⟨#[79, 80, 84, 73, 79, 78, 83]⟩ : ByteArray), a0_6 ++ a0_7, y194)) else (none)) = some (r1, r2, r3) := by first | (rw [hy194]; with_reducible exact H) | (have H2_ := (Option.bind_some _ _).symm.trans H; rw [hy194]; with_reducible exact H2_) | (have H2_ := (Option.bind_some _ _).symm.trans H; with_reducible exact H2_) | with_reducible exact H | (rw [hy194]; exact H) | exact H
       have Ny194 := Aside0.mk hy194
       clear hy194
       by_cases c31 : a0_6.size + a0_7.size ≤ 9223372036854775807
       ·rw [if_pos c31] at H
        have c31b0 := eq_true c31
        have c31b1 : decide (a0_6.size + a0_7.size ≤ 9223372036854775807) = true := decide_eq_true c31
        try have c31b2 : (9223372036854775807 < a0_6.size + a0_7.size) = False := eq_false (Nat.not_lt.2 c31)
        simp only [Option.some.injEq, Prod.mk.injEq] at H
        obtain ⟨rfl, rfl, rfl⟩ := H
        have hnb32 := NB177_178.out
        have hnc32 := NB178_177.out
        have hcz33_0 : wr.cell? ⟨gb177, 0, none⟩ = some (.string a0_0) := (blk_cell BK177.out 0).trans rfl
        have hcz33_1 : wr.cell? ⟨gb177, 1, none⟩ = some (.string a0_1) := (blk_cell BK177.out 1).trans rfl
        have hcz33_2 : wr.cell? ⟨gb177, 2, none⟩ = some (.int .i64 a0_2) := (blk_cell BK177.out 2).trans rfl
        have hcz33_3 : wr.cell? ⟨gb177, 3, none⟩ = some (.string a0_3) := (blk_cell BK177.out 3).trans rfl
        have hcz33_4 : wr.cell? ⟨gb177, 4, none⟩ = some (.string a0_4) := (blk_cell BK177.out 4).trans rfl
        have hcz33_5 : wr.cell? ⟨gb177, 5, none⟩ = some (.int .i64 a0_5) := (blk_cell BK177.out 5).trans rfl
        have hcz33_6 : wr.cell? ⟨gb177, 6, none⟩ = some (.string a0_6) := (blk_cell BK177.out 6).trans rfl
        have hcz33_7 : wr.cell? ⟨gb177, 7, none⟩ = some (.string a0_7) := (blk_cell BK177.out 7).trans rfl
        have hcz33_8 : wr.cell? ⟨gb177, 8, none⟩ = some (.string a0_8) := (blk_cell BK177.out 8).trans rfl
        have hcz33_9 : wr.cell? ⟨gb177, 9, none⟩ = some (.slice A0_9 l0_9.length c0_9) := (blk_cell BK177.out 9).trans rfl
        have hcz33_10 : wr.cell? ⟨gb177, 10, none⟩ = some (.bool true) := (blk_cell BK177.out 10).trans rfl
        have hq14 := fun j => blk_frozen BK177.out j
        obtain ⟨Ao34, co34, eo34⟩ := Kd.R_slice HO_4.out
        subst eo34
        go_wp2_with (first | ((with_reducible refine gate_callee (f := 16) rfl ?_); refine goesL_ (some 47) rfl rfl Tryd.func16 (by kernel_rfl) rfl #[.slice Ao34 x4_1.length co34, .string (⟨#[44]⟩ : ByteArray)] rfl (by (try simp only [List.map_toArray, List.map_cons, List.map_nil]); first | done | rfl) ?_; (with_reducible refine (r01_Join.calls k1 _ _ x4_1 (⟨#[44]⟩ : ByteArray) t190 _ ?side1 ?side2 A27.out).mono ?_); (case side1 => repeat (first | exact (Kd.R_reads' HO_4.out).2.2 | (with_reducible refine Kd.C_alloc ?_ _) | (with_reducible refine Kd.C_drewN ?_ _) | (with_reducible refine Kd.C_drew ?_))); (case side2 => exact (Kd.R_reads' HO_4.out).2.1); rintro e w' ⟨rfl, ⟨nd, rfl⟩⟩; refine ⟨_, rfl, ?_⟩; (try (rw [drewN_self wr]; generalize hq_ : World.drewN wr _ = wr; have n0_ : Aside0 (Kd.R k25 25 wr w.heap.size (fun _ => True) v182 y181) := ⟨by rw [← hq_]; exact (R_later HO_3.out)⟩; have n1_ : Aside0 (Kd.R Kd.string 9 wr w.heap.size (fun _ => True) (.slice Ao34 x4_1.length co34) x4_1) := ⟨by rw [← hq_]; exact (R_later HO_4.out)⟩; have n2_ : Aside0 (wr.heap[gb177]? = some (.cells #[.string a0_0, .string a0_1, .int .i64 a0_2, .string a0_3, .string a0_4, .int .i64 a0_5, .string a0_6, .string a0_7, .string a0_8, .slice A0_9 l0_9.length c0_9, .bool true] 48 (0, 0))) := ⟨by rw [← hq_]; exact (blk_later BK177.out)⟩; have n3_ : Aside0 (wr.heap[gb178]? = some (.cells #[.string (⟨#[]⟩ : ByteArray), .string (⟨#[]⟩ : ByteArray), .slice none 0 0] 52 (0, 0))) := ⟨by rw [← hq_]; exact (blk_later BK178.out)⟩; have n4_ : Aside0 (Below w.heap.size w wr) := ⟨by rw [← hq_]; exact (bel_later HB.out)⟩; clear HO_3 HO_4 BK177 BK178 HB hq_; have HO_3 := n0_; have HO_4 := n1_; have BK177 := n2_; have BK178 := n3_; have HB := n4_; clear n0_ n1_ n2_ n3_ n4_))) | ((with_reducible refine gate_builtin (b := .append) (xs := #[.tmp 45, .tmp 49]) rfl ?_); at_builtin; refine Kd.R_append k25 (w0 := w) w.heap.size rfl (.tmp 45) (.tmp 49) 22 25 (.agg #[(.string ⟨#[]⟩), (.string ⟨#[]⟩)]) 32 rfl Tryd.underlying22 info25 rfl (by decide) (by omega) v182 y181 (⟨(⟨#[65, 99, 99, 101, 115, 115, 45, 67, 111, 110, 116, 114, 111, 108, 45, 82, 101, 113, 117, 101, 115, 116, 45, 72, 101, 97, 100, 101, 114, 115]⟩ : ByteArray), t190⟩ : S25) [.string (⟨#[65, 99, 99, 101, 115, 115, 45, 67, 111, 110, 116, 114, 111, 108, 45, 82, 101, 113, 117, 101, 115, 116, 45, 72, 101, 97, 100, 101, 114, 115]⟩ : ByteArray), .string t190] (fun _ => True) (fun _ => False) rfl rfl ?aP (fun _ hk => hk.elim) ?aF ?aO ?aB ?aS ?aL ?_; (case aP => exact k25_mkM _ _ _ (⟨(⟨#[65, 99, 99, 101, 115, 115, 45, 67, 111, 110, 116, 114, 111, 108, 45, 82, 101, 113, 117, 101, 115, 116, 45, 72, 101, 97, 100, 101, 114, 115]⟩ : ByteArray), t190⟩ : S25)); (case aB => exact (bel_later HB.out)); (case aF => exact (fun _ _ => trivial)); (case aO => exact (R_later HO_3.out)); (case aS => exact (below_size (bel_later HB.out))); (case aL => have := LMc28.out; omega); intro v192 w35 ho hb hg hat; rw [← Ny191.out] at ho; have HO193 := Aside0.mk (ho); replace HO_4 := Aside0.mk (Kd.R_over' (R_later HO_4.out) (Kd.R_typed (R_later HO_3.out)) (by decide) hg); replace BK177 := Aside0.mk (blk_grown (g := gb177) (o := .cells #[.string a0_0, .string a0_1, .int .i64 a0_2, .string a0_3, .string a0_4, .int .i64 a0_5, .string a0_6, .string a0_7, .string a0_8, .slice A0_9 l0_9.length c0_9, .bool true] 48 (0, 0)) (blk_later BK177.out) hg (Kd.R_ne HO_3.out BK177.out (by decide))); replace BK178 := Aside0.mk (blk_grown (g := gb178) (o := .cells #[.string (⟨#[]⟩ : ByteArray), .string (⟨#[]⟩ : ByteArray), .slice none 0 0] 52 (0, 0)) (blk_later BK178.out) hg (Kd.R_ne HO_3.out BK178.out (by decide))); replace HB := Aside0.mk (hb); clear HO_3; clear ho hb hg hat; have hq3 := fun j => blk_cell BK177.out j; have hq15 := fun j => blk_frozen BK177.out j) | ((with_reducible refine gate_builtin (b := .append) (xs := #[.tmp 53, .tmp 55]) rfl ?_); at_builtin; refine Kd.R_append k25 (w0 := w) w.heap.size rfl (.tmp 53) (.tmp 55) 22 25 (.agg #[(.string ⟨#[]⟩), (.string ⟨#[]⟩)]) 32 rfl Tryd.underlying22 info25 rfl (by decide) (by omega) v192 y191 (⟨(⟨#[65, 99, 99, 101, 115, 115, 45, 67, 111, 110, 116, 114, 111, 108, 45, 82, 101, 113, 117, 101, 115, 116, 45, 80, 114, 105, 118, 97, 116, 101, 45, 78, 101, 116, 119, 111, 114, 107]⟩ : ByteArray), (⟨#[116, 114, 117, 101]⟩ : ByteArray)⟩ : S25) [.string (⟨#[65, 99, 99, 101, 115, 115, 45, 67, 111, 110, 116, 114, 111, 108, 45, 82, 101, 113, 117, 101, 115, 116, 45, 80, 114, 105, 118, 97, 116, 101, 45, 78, 101, 116, 119, 111, 114, 107]⟩ : ByteArray), .string (⟨#[116, 114, 117, 101]⟩ : ByteArray)] (fun _ => True) (fun _ => False) rfl rfl ?aP (fun _ hk => hk.elim) ?aF ?aO ?aB ?aS ?aL ?_; (case aP => exact k25_mkM _ _ _ (⟨(⟨#[65, 99, 99, 101, 115, 115, 45, 67, 111, 110, 116, 114, 111, 108, 45, 82, 101, 113, 117, 101, 115, 116, 45, 80, 114, 105, 118, 97, 116, 101, 45, 78, 101, 116, 119, 111, 114, 107]⟩ : ByteArray), (⟨#[116, 114, 117, 101]⟩ : ByteArray)⟩ : S25)); (case aB => exact (bel_later HB.out)); (case aF => exact (fun _ _ => trivial)); (case aO => exact (R_later HO193.out)); (case aS => exact (below_size (bel_later HB.out))); (case aL => have := LMc30.out; omega); intro v195 w37 ho hb hg hat; rw [← Ny194.out] at ho; have HO196 := Aside0.mk (ho); replace HO_4 := Aside0.mk (Kd.R_over' (R_later HO_4.out) (Kd.R_typed (R_later HO193.out)) (by decide) hg); replace BK177 := Aside0.mk (blk_grown (g := gb177) (o := .cells #[.string a0_0, .string a0_1, .int .i64 a0_2, .string a0_3, .string a0_4, .int .i64 a0_5, .string a0_6, .string a0_7, .string a0_8, .slice A0_9 l0_9.length c0_9, .bool true] 48 (0, 0)) (blk_later BK177.out) hg (Kd.R_ne HO193.out BK177.out (by decide))); replace BK178 := Aside0.mk (blk_grown (g := gb178) (o := .cells #[.string (⟨#[]⟩ : ByteArray), .string (⟨#[]⟩ : ByteArray), .slice none 0 0] 52 (0, 0)) (blk_later BK178.out) hg (Kd.R_ne HO193.out BK178.out (by decide))); replace HB := Aside0.mk (hb); clear HO193; clear ho hb hg hat; have hq4 := fun j => blk_cell BK177.out j; have hq16 := fun j => blk_frozen BK177.out j; obtain ⟨Ao39, co39, eo39⟩ := Kd.R_slice HO196.out; subst eo39; have hq5 := fun j => blk_cell BK178.out j; have hq17 := fun j => blk_frozen BK178.out j))
        refine bodyPost_ret (results_cell_row rfl _ _ gb178 52 #[.string (⟨#[79, 80, 84, 73, 79, 78, 83]⟩ : ByteArray), .string (a0_6 ++ a0_7), .slice Ao39 y194.length co39] (0, 0) _ rfl (blk_sets BK178.out) Tryd.underlying52 rfl (by kernel_rfl)) rfl ?_
        exact ⟨_, by first | rfl | (simp [errW_none, errW_some] <;> rfl) | (simp [*, errW_none, errW_some] <;> rfl), by (with_reducible repeat (first | apply Kd.R_alloc | apply Kd.R_drewN | apply Kd.R_drew)); exact Kd.R_mono (R_fars (g := gb178) (Kd.R_types HO196.out BK178.out (by decide)) (fun _ hk => hk.2)) (fun _ hk => trivial), by repeat (first | (with_reducible first | exact HB.out | apply below_alloc | apply pw_below_drewN | apply below_drew1 | refine below_set ?_ GE177.out | refine below_set ?_ GE178.out) | exact HB.out)⟩
       rw [if_neg c31] at H
       exact absurd H (by simp)
      rw [if_neg c30] at H
      exact absurd H (by simp)
     replace c29 := Bool.eq_false_iff.mpr c29
     subst c29
     have H1 : (if a0_6.size + a0_7.size ≤ 9223372036854775807 then (some ((⟨#[79, 80, 84, 73, 79, 78, 83]⟩ : ByteArray), a0_6 ++ a0_7, y191)) else (none)) = some (r1, r2, r3) := by rw [if_neg (show ¬ (false = true) by decide)] at H; exact H
     clear H
     have H := H1
     clear H1
     by_cases c41 : a0_6.size + a0_7.size ≤ 9223372036854775807
     ·rw [if_pos c41] at H
      have c41b0 := eq_true c41
      have c41b1 : decide (a0_6.size + a0_7.size ≤ 9223372036854775807) = true := decide_eq_true c41
      try have c41b2 : (9223372036854775807 < a0_6.size + a0_7.size) = False := eq_false (Nat.not_lt.2 c41)
      simp only [Option.some.injEq, Prod.mk.injEq] at H
      obtain ⟨rfl, rfl, rfl⟩ := H
      have hnb42 := NB177_178.out
      have hnc42 := NB178_177.out
      have hcz43_0 : wr.cell? ⟨gb177, 0, none⟩ = some (.string a0_0) := (blk_cell BK177.out 0).trans rfl
      have hcz43_1 : wr.cell? ⟨gb177, 1, none⟩ = some (.string a0_1) := (blk_cell BK177.out 1).trans rfl
      have hcz43_2 : wr.cell? ⟨gb177, 2, none⟩ = some (.int .i64 a0_2) := (blk_cell BK177.out 2).trans rfl
      have hcz43_3 : wr.cell? ⟨gb177, 3, none⟩ = some (.string a0_3) := (blk_cell BK177.out 3).trans rfl
      have hcz43_4 : wr.cell? ⟨gb177, 4, none⟩ = some (.string a0_4) := (blk_cell BK177.out 4).trans rfl
      have hcz43_5 : wr.cell? ⟨gb177, 5, none⟩ = some (.int .i64 a0_5) := (blk_cell BK177.out 5).trans rfl
      have hcz43_6 : wr.cell? ⟨gb177, 6, none⟩ = some (.string a0_6) := (blk_cell BK177.out 6).trans rfl
      have hcz43_7 : wr.cell? ⟨gb177, 7, none⟩ = some (.string a0_7) := (blk_cell BK177.out 7).trans rfl
      have hcz43_8 : wr.cell? ⟨gb177, 8, none⟩ = some (.string a0_8) := (blk_cell BK177.out 8).trans rfl
      have hcz43_9 : wr.cell? ⟨gb177, 9, none⟩ = some (.slice A0_9 l0_9.length c0_9) := (blk_cell BK177.out 9).trans rfl
      have hcz43_10 : wr.cell? ⟨gb177, 10, none⟩ = some (.bool false) := (blk_cell BK177.out 10).trans rfl
      have hq18 := fun j => blk_frozen BK177.out j
      obtain ⟨Ao44, co44, eo44⟩ := Kd.R_slice HO_4.out
      subst eo44
      go_wp2_with (first | ((with_reducible refine gate_callee (f := 16) rfl ?_); refine goesL_ (some 47) rfl rfl Tryd.func16 (by kernel_rfl) rfl #[.slice Ao44 x4_1.length co44, .string (⟨#[44]⟩ : ByteArray)] rfl (by (try simp only [List.map_toArray, List.map_cons, List.map_nil]); first | done | rfl) ?_; (with_reducible refine (r01_Join.calls k1 _ _ x4_1 (⟨#[44]⟩ : ByteArray) t190 _ ?side1 ?side2 A27.out).mono ?_); (case side1 => repeat (first | exact (Kd.R_reads' HO_4.out).2.2 | (with_reducible refine Kd.C_alloc ?_ _) | (with_reducible refine Kd.C_drewN ?_ _) | (with_reducible refine Kd.C_drew ?_))); (case side2 => exact (Kd.R_reads' HO_4.out).2.1); rintro e w' ⟨rfl, ⟨nd, rfl⟩⟩; refine ⟨_, rfl, ?_⟩; (try (rw [drewN_self wr]; generalize hq_ : World.drewN wr _ = wr; have n0_ : Aside0 (Kd.R k25 25 wr w.heap.size (fun _ => True) v182 y181) := ⟨by rw [← hq_]; exact (R_later HO_3.out)⟩; have n1_ : Aside0 (Kd.R Kd.string 9 wr w.heap.size (fun _ => True) (.slice Ao44 x4_1.length co44) x4_1) := ⟨by rw [← hq_]; exact (R_later HO_4.out)⟩; have n2_ : Aside0 (wr.heap[gb177]? = some (.cells #[.string a0_0, .string a0_1, .int .i64 a0_2, .string a0_3, .string a0_4, .int .i64 a0_5, .string a0_6, .string a0_7, .string a0_8, .slice A0_9 l0_9.length c0_9, .bool false] 48 (0, 0))) := ⟨by rw [← hq_]; exact (blk_later BK177.out)⟩; have n3_ : Aside0 (wr.heap[gb178]? = some (.cells #[.string (⟨#[]⟩ : ByteArray), .string (⟨#[]⟩ : ByteArray), .slice none 0 0] 52 (0, 0))) := ⟨by rw [← hq_]; exact (blk_later BK178.out)⟩; have n4_ : Aside0 (Below w.heap.size w wr) := ⟨by rw [← hq_]; exact (bel_later HB.out)⟩; clear HO_3 HO_4 BK177 BK178 HB hq_; have HO_3 := n0_; have HO_4 := n1_; have BK177 := n2_; have BK178 := n3_; have HB := n4_; clear n0_ n1_ n2_ n3_ n4_))) | ((with_reducible refine gate_builtin (b := .append) (xs := #[.tmp 45, .tmp 49]) rfl ?_); at_builtin; refine Kd.R_append k25 (w0 := w) w.heap.size rfl (.tmp 45) (.tmp 49) 22 25 (.agg #[(.string ⟨#[]⟩), (.string ⟨#[]⟩)]) 32 rfl Tryd.underlying22 info25 rfl (by decide) (by omega) v182 y181 (⟨(⟨#[65, 99, 99, 101, 115, 115, 45, 67, 111, 110, 116, 114, 111, 108, 45, 82, 101, 113, 117, 101, 115, 116, 45, 72, 101, 97, 100, 101, 114, 115]⟩ : ByteArray), t190⟩ : S25) [.string (⟨#[65, 99, 99, 101, 115, 115, 45, 67, 111, 110, 116, 114, 111, 108, 45, 82, 101, 113, 117, 101, 115, 116, 45, 72, 101, 97, 100, 101, 114, 115]⟩ : ByteArray), .string t190] (fun _ => True) (fun _ => False) rfl rfl ?aP (fun _ hk => hk.elim) ?aF ?aO ?aB ?aS ?aL ?_; (case aP => exact k25_mkM _ _ _ (⟨(⟨#[65, 99, 99, 101, 115, 115, 45, 67, 111, 110, 116, 114, 111, 108, 45, 82, 101, 113, 117, 101, 115, 116, 45, 72, 101, 97, 100, 101, 114, 115]⟩ : ByteArray), t190⟩ : S25)); (case aB => exact (bel_later HB.out)); (case aF => exact (fun _ _ => trivial)); (case aO => exact (R_later HO_3.out)); (case aS => exact (below_size (bel_later HB.out))); (case aL => have := LMc28.out; omega); intro v192 w45 ho hb hg hat; rw [← Ny191.out] at ho; have HO193 := Aside0.mk (ho); replace HO_4 := Aside0.mk (Kd.R_over' (R_later HO_4.out) (Kd.R_typed (R_later HO_3.out)) (by decide) hg); replace BK177 := Aside0.mk (blk_grown (g := gb177) (o := .cells #[.string a0_0, .string a0_1, .int .i64 a0_2, .string a0_3, .string a0_4, .int .i64 a0_5, .string a0_6, .string a0_7, .string a0_8, .slice A0_9 l0_9.length c0_9, .bool false] 48 (0, 0)) (blk_later BK177.out) hg (Kd.R_ne HO_3.out BK177.out (by decide))); replace BK178 := Aside0.mk (blk_grown (g := gb178) (o := .cells #[.string (⟨#[]⟩ : ByteArray), .string (⟨#[]⟩ : ByteArray), .slice none 0 0] 52 (0, 0)) (blk_later BK178.out) hg (Kd.R_ne HO_3.out BK178.out (by decide))); replace HB := Aside0.mk (hb); clear HO_3; clear ho hb hg hat; have hq6 := fun j => blk_cell BK177.out j; have hq19 := fun j => blk_frozen BK177.out j; obtain ⟨Ao47, co47, eo47⟩ := Kd.R_slice HO193.out; subst eo47; have hq7 := fun j => blk_cell BK178.out j; have hq20 := fun j => blk_frozen BK178.out j))
      refine bodyPost_ret (results_cell_row rfl _ _ gb178 52 #[.string (⟨#[79, 80, 84, 73, 79, 78, 83]⟩ : ByteArray), .string (a0_6 ++ a0_7), .slice Ao47 y191.length co47] (0, 0) _ rfl (blk_sets BK178.out) Tryd.underlying52 rfl (by kernel_rfl)) rfl ?_
      exact ⟨_, by first | rfl | (simp [errW_none, errW_some] <;> rfl) | (simp [*, errW_none, errW_some] <;> rfl), by (with_reducible repeat (first | apply Kd.R_alloc | apply Kd.R_drewN | apply Kd.R_drew)); exact Kd.R_mono (R_fars (g := gb178) (Kd.R_types HO193.out BK178.out (by decide)) (fun _ hk => hk.2)) (fun _ hk => trivial), by repeat (first | (with_reducible first | exact HB.out | apply below_alloc | apply pw_below_drewN | apply below_drew1 | refine below_set ?_ GE177.out | refine below_set ?_ GE178.out) | exact HB.out)⟩
     rw [if_neg c41] at H
     exact absurd H (by simp)
    rw [if_neg c28] at H
    exact absurd H (by simp)
   rw [if_neg c26] at H
   have c26b0 : decide (0 < (x4_1.length : Int)) = false := decide_eq_false c26
   have c26b1 : decide (0 < x4_1.length) = false := decide_eq_false (by omega)
   clear c26
   by_cases c49 : a0_10 = true
   ·subst c49
    have H1 : (if y181.length < 4398046511104 then (if a0_6.size + a0_7.size ≤ 9223372036854775807 then (some ((⟨#[79, 80, 84, 73, 79, 78, 83]⟩ : ByteArray), a0_6 ++ a0_7, (y181 ++ [(⟨(⟨#[65, 99, 99, 101, 115, 115, 45, 67, 111, 110, 116, 114, 111, 108, 45, 82, 101, 113, 117, 101, 115, 116, 45, 80, 114, 105, 118, 97, 116, 101, 45, 78, 101, 116, 119, 111, 114, 107]⟩ : ByteArray), (⟨#[116, 114, 117, 101]⟩ : ByteArray)⟩ : S25)]))) else (none)) else (none)) = some (r1, r2, r3) := by rw [if_pos rfl] at H; exact H
    clear H
    have H := H1
    clear H1
    by_cases c50 : y181.length < 4398046511104
    ·rw [if_pos c50] at H
     have LMc50 := Aside0.mk c50
     clear c50
     obtain ⟨y197, hy197⟩ : ∃ y_ : List (S25), y_ = (y181 ++ [(⟨(⟨#[65, 99, 99, 101, 115, 115, 45, 67, 111, 110, 116, 114, 111, 108, 45, 82, 101, 113, 117, 101, 115, 116, 45, 80, 114, 105, 118, 97, 116, 101, 45, 78, 101, 116, 119, 111, 114, 107]⟩ : ByteArray), (⟨#[116, 114, 117, 101]⟩ : ByteArray)⟩ : S25)]) := ⟨_, rfl⟩
     replace H : (if a0_6.size + a0_7.size ≤ 9223372036854775807 then (some ((⟨#[79, 80, 84, 73, 79, 78, 83]⟩ : ByteArray), a0_6 ++ a0_7, y197)) else (none)) = some (r1, r2, r3) := by first | (rw [hy197]; with_reducible exact H) | (have H2_ := (Option.bind_some _ _).symm.trans H; rw [hy197]; with_reducible exact H2_) | (have H2_ := (Option.bind_some _ _).symm.trans H; with_reducible exact H2_) | with_reducible exact H | (rw [hy197]; exact H) | exact H
     have Ny197 := Aside0.mk hy197
     clear hy197
     by_cases c51 : a0_6.size + a0_7.size ≤ 9223372036854775807
     ·rw [if_pos c51] at H
      have c51b0 := eq_true c51
      have c51b1 : decide (a0_6.size + a0_7.size ≤ 9223372036854775807) = true := decide_eq_true c51
      try have c51b2 : (9223372036854775807 < a0_6.size + a0_7.size) = False := eq_false (Nat.not_lt.2 c51)
      simp only [Option.some.injEq, Prod.mk.injEq] at H
      obtain ⟨rfl, rfl, rfl⟩ := H
      have hnb52 := NB177_178.out
      have hnc52 := NB178_177.out
      have hcz53_0 : wr.cell? ⟨gb177, 0, none⟩ = some (.string a0_0) := (blk_cell BK177.out 0).trans rfl
      have hcz53_1 : wr.cell? ⟨gb177, 1, none⟩ = some (.string a0_1) := (blk_cell BK177.out 1).trans rfl
      have hcz53_2 : wr.cell? ⟨gb177, 2, none⟩ = some (.int .i64 a0_2) := (blk_cell BK177.out 2).trans rfl
      have hcz53_3 : wr.cell? ⟨gb177, 3, none⟩ = some (.string a0_3) := (blk_cell BK177.out 3).trans rfl
      have hcz53_4 : wr.cell? ⟨gb177, 4, none⟩ = some (.string a0_4) := (blk_cell BK177.out 4).trans rfl
      have hcz53_5 : wr.cell? ⟨gb177, 5, none⟩ = some (.int .i64 a0_5) := (blk_cell BK177.out 5).trans rfl
      have hcz53_6 : wr.cell? ⟨gb177, 6, none⟩ = some (.string a0_6) := (blk_cell BK177.out 6).trans rfl
      have hcz53_7 : wr.cell? ⟨gb177, 7, none⟩ = some (.string a0_7) := (blk_cell BK177.out 7).trans rfl
      have hcz53_8 : wr.cell? ⟨gb177, 8, none⟩ = some (.string a0_8) := (blk_cell BK177.out 8).trans rfl
      have hcz53_9 : wr.cell? ⟨gb177, 9, none⟩ = some (.slice A0_9 l0_9.length c0_9) := (blk_cell BK177.out 9).trans rfl
      have hcz53_10 : wr.cell? ⟨gb177, 10, none⟩ = some (.bool true) := (blk_cell BK177.out 10).trans rfl
      have hq21 := fun j => blk_frozen BK177.out j
      obtain ⟨Ao54, co54, eo54⟩ := Kd.R_slice HO_4.out
      subst eo54
      go_wp2_with (first | ((with_reducible refine gate_builtin (b := .append) (xs := #[.tmp 53, .tmp 55]) rfl ?_); at_builtin; refine Kd.R_append k25 (w0 := w) w.heap.size rfl (.tmp 53) (.tmp 55) 22 25 (.agg #[(.string ⟨#[]⟩), (.string ⟨#[]⟩)]) 32 rfl Tryd.underlying22 info25 rfl (by decide) (by omega) v182 y181 (⟨(⟨#[65, 99, 99, 101, 115, 115, 45, 67, 111, 110, 116, 114, 111, 108, 45, 82, 101, 113, 117, 101, 115, 116, 45, 80, 114, 105, 118, 97, 116, 101, 45, 78, 101, 116, 119, 111, 114, 107]⟩ : ByteArray), (⟨#[116, 114, 117, 101]⟩ : ByteArray)⟩ : S25) [.string (⟨#[65, 99, 99, 101, 115, 115, 45, 67, 111, 110, 116, 114, 111, 108, 45, 82, 101, 113, 117, 101, 115, 116, 45, 80, 114, 105, 118, 97, 116, 101, 45, 78, 101, 116, 119, 111, 114, 107]⟩ : ByteArray), .string (⟨#[116, 114, 117, 101]⟩ : ByteArray)] (fun _ => True) (fun _ => False) rfl rfl ?aP (fun _ hk => hk.elim) ?aF ?aO ?aB ?aS ?aL ?_; (case aP => exact k25_mkM _ _ _ (⟨(⟨#[65, 99, 99, 101, 115, 115, 45, 67, 111, 110, 116, 114, 111, 108, 45, 82, 101, 113, 117, 101, 115, 116, 45, 80, 114, 105, 118, 97, 116, 101, 45, 78, 101, 116, 119, 111, 114, 107]⟩ : ByteArray), (⟨#[116, 114, 117, 101]⟩ : ByteArray)⟩ : S25)); (case aB => exact (bel_later HB.out)); (case aF => exact (fun _ _ => trivial)); (case aO => exact (R_later HO_3.out)); (case aS => exact (below_size (bel_later HB.out))); (case aL => have := LMc50.out; omega); intro v198 w55 ho hb hg hat; rw [← Ny197.out] at ho; have HO199 := Aside0.mk (ho); replace HO_4 := Aside0.mk (Kd.R_over' (R_later HO_4.out) (Kd.R_typed (R_later HO_3.out)) (by decide) hg); replace BK177 := Aside0.mk (blk_grown (g := gb177) (o := .cells #[.string a0_0, .string a0_1, .int .i64 a0_2, .string a0_3, .string a0_4, .int .i64 a0_5, .string a0_6, .string a0_7, .string a0_8, .slice A0_9 l0_9.length c0_9, .bool true] 48 (0, 0)) (blk_later BK177.out) hg (Kd.R_ne HO_3.out BK177.out (by decide))); replace BK178 := Aside0.mk (blk_grown (g := gb178) (o := .cells #[.string (⟨#[]⟩ : ByteArray), .string (⟨#[]⟩ : ByteArray), .slice none 0 0] 52 (0, 0)) (blk_later BK178.out) hg (Kd.R_ne HO_3.out BK178.out (by decide))); replace HB := Aside0.mk (hb); clear HO_3; clear ho hb hg hat; have hq8 := fun j => blk_cell BK177.out j; have hq22 := fun j => blk_frozen BK177.out j; obtain ⟨Ao57, co57, eo57⟩ := Kd.R_slice HO199.out; subst eo57; have hq9 := fun j => blk_cell BK178.out j; have hq23 := fun j => blk_frozen BK178.out j))
      refine bodyPost_ret (results_cell_row rfl _ _ gb178 52 #[.string (⟨#[79, 80, 84, 73, 79, 78, 83]⟩ : ByteArray), .string (a0_6 ++ a0_7), .slice Ao57 y197.length co57] (0, 0) _ rfl (blk_sets BK178.out) Tryd.underlying52 rfl (by kernel_rfl)) rfl ?_
      exact ⟨_, by first | rfl | (simp [errW_none, errW_some] <;> rfl) | (simp [*, errW_none, errW_some] <;> rfl), by (with_reducible repeat (first | apply Kd.R_alloc | apply Kd.R_drewN | apply Kd.R_drew)); exact Kd.R_mono (R_fars (g := gb178) (Kd.R_types HO199.out BK178.out (by decide)) (fun _ hk => hk.2)) (fun _ hk => trivial), by repeat (first | (with_reducible first | exact HB.out | apply below_alloc | apply pw_below_drewN | apply below_drew1 | refine below_set ?_ GE177.out | refine below_set ?_ GE178.out) | exact HB.out)⟩
     rw [if_neg c51] at H
     exact absurd H (by simp)
    rw [if_neg c50] at H
    exact absurd H (by simp)
   replace c49 := Bool.eq_false_iff.mpr c49
   subst c49
   have H1 : (if a0_6.size + a0_7.size ≤ 9223372036854775807 then (some ((⟨#[79, 80, 84, 73, 79, 78, 83]⟩ : ByteArray), a0_6 ++ a0_7, y181)) else (none)) = some (r1, r2, r3) := by rw [if_neg (show ¬ (false = true) by decide)] at H; exact H
   clear H
   have H := H1
   clear H1
   by_cases c59 : a0_6.size + a0_7.size ≤ 9223372036854775807
   ·rw [if_pos c59] at H
    have c59b0 := eq_true c59
    have c59b1 : decide (a0_6.size + a0_7.size ≤ 9223372036854775807) = true := decide_eq_true c59
    try have c59b2 : (9223372036854775807 < a0_6.size + a0_7.size) = False := eq_false (Nat.not_lt.2 c59)
    simp only [Option.some.injEq, Prod.mk.injEq] at H
    obtain ⟨rfl, rfl, rfl⟩ := H
    have hnb60 := NB177_178.out
    have hnc60 := NB178_177.out
    have hcz61_0 : wr.cell? ⟨gb177, 0, none⟩ = some (.string a0_0) := (blk_cell BK177.out 0).trans rfl
    have hcz61_1 : wr.cell? ⟨gb177, 1, none⟩ = some (.string a0_1) := (blk_cell BK177.out 1).trans rfl
    have hcz61_2 : wr.cell? ⟨gb177, 2, none⟩ = some (.int .i64 a0_2) := (blk_cell BK177.out 2).trans rfl
    have hcz61_3 : wr.cell? ⟨gb177, 3, none⟩ = some (.string a0_3) := (blk_cell BK177.out 3).trans rfl
    have hcz61_4 : wr.cell? ⟨gb177, 4, none⟩ = some (.string a0_4) := (blk_cell BK177.out 4).trans rfl
    have hcz61_5 : wr.cell? ⟨gb177, 5, none⟩ = some (.int .i64 a0_5) := (blk_cell BK177.out 5).trans rfl
    have hcz61_6 : wr.cell? ⟨gb177, 6, none⟩ = some (.string a0_6) := (blk_cell BK177.out 6).trans rfl
    have hcz61_7 : wr.cell? ⟨gb177, 7, none⟩ = some (.string a0_7) := (blk_cell BK177.out 7).trans rfl
    have hcz61_8 : wr.cell? ⟨gb177, 8, none⟩ = some (.string a0_8) := (blk_cell BK177.out 8).trans rfl
    have hcz61_9 : wr.cell? ⟨gb177, 9, none⟩ = some (.slice A0_9 l0_9.length c0_9) := (blk_cell BK177.out 9).trans rfl
    have hcz61_10 : wr.cell? ⟨gb177, 10, none⟩ = some (.bool false) := (blk_cell BK177.out 10).trans rfl
    have hq24 := fun j => blk_frozen BK177.out j
    obtain ⟨Ao62, co62, eo62⟩ := Kd.R_slice HO_4.out
    subst eo62
    obtain ⟨Ao63, co63, eo63⟩ := Kd.R_slice HO_3.out
    subst eo63
    have hcz64_0 : wr.cell? ⟨gb178, 0, none⟩ = some (.string (⟨#[]⟩ : ByteArray)) := (blk_cell BK178.out 0).trans rfl
    have hcz64_1 : wr.cell? ⟨gb178, 1, none⟩ = some (.string (⟨#[]⟩ : ByteArray)) := (blk_cell BK178.out 1).trans rfl
    have hcz64_2 : wr.cell? ⟨gb178, 2, none⟩ = some (.slice none 0 0) := (blk_cell BK178.out 2).trans rfl
    have hq25 := fun j => blk_frozen BK178.out j
    go_wp2
    refine bodyPost_ret (results_cell_row rfl _ _ gb178 52 #[.string (⟨#[79, 80, 84, 73, 79, 78, 83]⟩ : ByteArray), .string (a0_6 ++ a0_7), .slice Ao63 y181.length co63] (0, 0) _ rfl (blk_sets BK178.out) Tryd.underlying52 rfl (by kernel_rfl)) rfl ?_
    exact ⟨_, by first | rfl | (simp [errW_none, errW_some] <;> rfl) | (simp [*, errW_none, errW_some] <;> rfl), by (with_reducible repeat (first | apply Kd.R_alloc | apply Kd.R_drewN | apply Kd.R_drew)); exact Kd.R_mono (R_fars (g := gb178) (Kd.R_types HO_3.out BK178.out (by decide)) (fun _ hk => hk.2)) (fun _ hk => trivial), by repeat (first | (with_reducible first | exact HB.out | apply below_alloc | apply pw_below_drewN | apply below_drew1 | refine below_set ?_ GE177.out | refine below_set ?_ GE178.out) | exact HB.out)⟩
   rw [if_neg c59] at H
   exact absurd H (by simp)


/-! ### r14_shown: function 91 -/
def r14_shown.l0 : Nat → ByteArray → Int → Option (Bool)
 | 0, _, _ => none
 | k + 1, x0, x3 => if x3 < (x0.size : Int) then (if 0 ≤ x3 then (if (bt x0 x3) < 32 then (if (bt x0 x3) = 9 then (r14_shown.l0 k x0 (wrap64 (x3 + 1))) else (some false)) else (if (bt x0 x3) > 126 then (if (bt x0 x3) = 9 then (r14_shown.l0 k x0 (wrap64 (x3 + 1))) else (some false)) else (r14_shown.l0 k x0 (wrap64 (x3 + 1))))) else (none)) else (some true)
def r14_shown.f (k : Nat) (a0 : ByteArray) : Option (Bool) := r14_shown.l0 k a0 0
set_option maxHeartbeats 8000000 in
set_option maxRecDepth 100000 in
theorem r14_shown.calls (k : Nat) (a0 : ByteArray) (r : Bool) (w : World) (h : r14_shown.f k a0 = some r) :
  Calls Tryd.prog 91 #[.string a0] w fun e w' => e = .returned (.bool r) ∧ Drawn0 w w' := by
 have H := h
 unfold r14_shown.f at H
 clear h
 have H' := Aside0.mk H
 clear H
 go_enter Tryd.func91, Tryd.ntmps91
 go_wp2
 go_loopg [3] k (fun kq v3 w' => ∃ (x3_1 : Int), v3 = .int .i64 x3_1 ∧ Aside0 (r14_shown.l0 kq a0 x3_1 = some r) ∧ Aside0 (kq ≤ k) ∧ Drawn0 w w')
 case atStart => exact ⟨(0), (by first | rfl | (simp [bne, *]; done) | (simp; done)), H', ⟨Nat.le_refl _⟩, by repeat (first | exact Drawn0.refl _ | apply Drawn0.step)⟩
 case round =>
  clear H'
  obtain ⟨x3_1, rfl, HA, HK1, ⟨m1, rfl⟩⟩ := hrel
  cases gk with
  | zero => exact absurd HA.out (by simp [r14_shown.l0])
  | succ k1 =>
   have H := HA.out
   clear HA
   simp only [r14_shown.l0] at H
   by_cases c2 : x3_1 < (a0.size : Int)
   ·rw [if_pos c2] at H
    have c2b0 : decide (x3_1 < (a0.size : Int)) = true := decide_eq_true c2
    clear c2
    by_cases c3 : 0 ≤ x3_1
    ·rw [if_pos c3] at H
     have c3b0 : decide (0 ≤ x3_1) = true := decide_eq_true c3
     clear c3
     by_cases c5 : (bt a0 x3_1) < 32
     ·rw [if_pos c5] at H
      have c5b0 : decide ((bt a0 x3_1) < 32) = true := decide_eq_true c5
      clear c5
      by_cases c7 : (bt a0 x3_1) = 9
      ·rw [if_pos c7] at H
       have c7b0 : ((bt a0 x3_1) == 9) = true := beq_iff_eq.mpr c7
       have c7b1 : ((bt a0 x3_1) != 9) = false := bne_eq_false_iff_eq.mpr c7
       clear c7
       have H' := Aside0.mk H
       clear H
       have p4 : 0 ≤ (x3_1 : Int) := of_decide_eq_true (by first | (with_reducible assumption) | assumption)
       have q4 : x3_1 < (a0.size : Int) := of_decide_eq_true (by first | (with_reducible assumption) | assumption)
       have hx4 := bt_at a0 x3_1
       replace p4 := eq_true p4
       replace q4 := eq_true q4
       have p6 : 0 ≤ (x3_1 : Int) := of_decide_eq_true (by first | (with_reducible assumption) | assumption)
       have q6 : x3_1 < (a0.size : Int) := of_decide_eq_true (by first | (with_reducible assumption) | assumption)
       have hx6 := bt_at a0 x3_1
       replace p6 := eq_true p6
       replace q6 := eq_true q6
       go_wp2
       go_roundg k1
       case measure => have := HK1.out; omega
       case rel => exact ⟨(wrap64 (x3_1 + 1)), (by first | rfl | (simp [bne, *]; done) | (simp; done)), H', ⟨by have := HK1.out; omega⟩, by repeat (first | exact Drawn0.refl _ | apply Drawn0.step)⟩
      rw [if_neg c7] at H
      have c7b0 : ((bt a0 x3_1) == 9) = false := beq_eq_false_iff_ne.mpr c7
      have c7b1 : ((bt a0 x3_1) != 9) = true := bne_iff_ne.mpr c7
      obtain rfl := Option.some.inj H
      have p4 : 0 ≤ (x3_1 : Int) := of_decide_eq_true (by first | (with_reducible assumption) | assumption)
      have q4 : x3_1 < (a0.size : Int) := of_decide_eq_true (by first | (with_reducible assumption) | assumption)
      have hx4 := bt_at a0 x3_1
      replace p4 := eq_true p4
      replace q4 := eq_true q4
      have p6 : 0 ≤ (x3_1 : Int) := of_decide_eq_true (by first | (with_reducible assumption) | assumption)
      have q6 : x3_1 < (a0.size : Int) := of_decide_eq_true (by first | (with_reducible assumption) | assumption)
      have hx6 := bt_at a0 x3_1
      replace p6 := eq_true p6
      replace q6 := eq_true q6
      go_wp2
      go_ret
      exact ⟨by first | rfl | (simp [bne, *]; done) | (simp; done), by repeat (first | exact Drawn0.refl _ | apply Drawn0.step)⟩
     rw [if_neg c5] at H
     have c5b0 : decide ((bt a0 x3_1) < 32) = false := decide_eq_false c5
     clear c5
     by_cases c9 : (bt a0 x3_1) > 126
     ·rw [if_pos c9] at H
      have c9b0 : decide (126 < (bt a0 x3_1)) = true := decide_eq_true c9
      clear c9
      by_cases c11 : (bt a0 x3_1) = 9
      ·rw [if_pos c11] at H
       have c11b0 : ((bt a0 x3_1) == 9) = true := beq_iff_eq.mpr c11
       have c11b1 : ((bt a0 x3_1) != 9) = false := bne_eq_false_iff_eq.mpr c11
       clear c11
       have H' := Aside0.mk H
       clear H
       have p4 : 0 ≤ (x3_1 : Int) := of_decide_eq_true (by first | (with_reducible assumption) | assumption)
       have q4 : x3_1 < (a0.size : Int) := of_decide_eq_true (by first | (with_reducible assumption) | assumption)
       have hx4 := bt_at a0 x3_1
       replace p4 := eq_true p4
       replace q4 := eq_true q4
       have p8 : 0 ≤ (x3_1 : Int) := of_decide_eq_true (by first | (with_reducible assumption) | assumption)
       have q8 : x3_1 < (a0.size : Int) := of_decide_eq_true (by first | (with_reducible assumption) | assumption)
       have hx8 := bt_at a0 x3_1
       replace p8 := eq_true p8
       replace q8 := eq_true q8
       have p10 : 0 ≤ (x3_1 : Int) := of_decide_eq_true (by first | (with_reducible assumption) | assumption)
       have q10 : x3_1 < (a0.size : Int) := of_decide_eq_true (by first | (with_reducible assumption) | assumption)
       have hx10 := bt_at a0 x3_1
       replace p10 := eq_true p10
       replace q10 := eq_true q10
       go_wp2
       go_roundg k1
       case measure => have := HK1.out; omega
       case rel => exact ⟨(wrap64 (x3_1 + 1)), (by first | rfl | (simp [bne, *]; done) | (simp; done)), H', ⟨by have := HK1.out; omega⟩, by repeat (first | exact Drawn0.refl _ | apply Drawn0.step)⟩
      rw [if_neg c11] at H
      have c11b0 : ((bt a0 x3_1) == 9) = false := beq_eq_false_iff_ne.mpr c11
      have c11b1 : ((bt a0 x3_1) != 9) = true := bne_iff_ne.mpr c11
      obtain rfl := Option.some.inj H
      have p4 : 0 ≤ (x3_1 : Int) := of_decide_eq_true (by first | (with_reducible assumption) | assumption)
      have q4 : x3_1 < (a0.size : Int) := of_decide_eq_true (by first | (with_reducible assumption) | assumption)
      have hx4 := bt_at a0 x3_1
      replace p4 := eq_true p4
      replace q4 := eq_true q4
      have p8 : 0 ≤ (x3_1 : Int) := of_decide_eq_true (by first | (with_reducible assumption) | assumption)
      have q8 : x3_1 < (a0.size : Int) := of_decide_eq_true (by first | (with_reducible assumption) | assumption)
      have hx8 := bt_at a0 x3_1
      replace p8 := eq_true p8
      replace q8 := eq_true q8
      have p10 : 0 ≤ (x3_1 : Int) := of_decide_eq_true (by first | (with_reducible assumption) | assumption)
      have q10 : x3_1 < (a0.size : Int) := of_decide_eq_true (by first | (with_reducible assumption) | assumption)
      have hx10 := bt_at a0 x3_1
      replace p10 := eq_true p10
      replace q10 := eq_true q10
      go_wp2
      go_ret
      exact ⟨by first | rfl | (simp [bne, *]; done) | (simp; done), by repeat (first | exact Drawn0.refl _ | apply Drawn0.step)⟩
     rw [if_neg c9] at H
     have c9b0 : decide (126 < (bt a0 x3_1)) = false := decide_eq_false c9
     clear c9
     have H' := Aside0.mk H
     clear H
     have p4 : 0 ≤ (x3_1 : Int) := of_decide_eq_true (by first | (with_reducible assumption) | assumption)
     have q4 : x3_1 < (a0.size : Int) := of_decide_eq_true (by first | (with_reducible assumption) | assumption)
     have hx4 := bt_at a0 x3_1
     replace p4 := eq_true p4
     replace q4 := eq_true q4
     have p8 : 0 ≤ (x3_1 : Int) := of_decide_eq_true (by first | (with_reducible assumption) | assumption)
     have q8 : x3_1 < (a0.size : Int) := of_decide_eq_true (by first | (with_reducible assumption) | assumption)
     have hx8 := bt_at a0 x3_1
     replace p8 := eq_true p8
     replace q8 := eq_true q8
     go_wp2
     go_roundg k1
     case measure => have := HK1.out; omega
     case rel => exact ⟨(wrap64 (x3_1 + 1)), (by first | rfl | (simp [bne, *]; done) | (simp; done)), H', ⟨by have := HK1.out; omega⟩, by repeat (first | exact Drawn0.refl _ | apply Drawn0.step)⟩
    rw [if_neg c3] at H
    exact absurd H (by simp)
   rw [if_neg c2] at H
   have c2b0 : decide (x3_1 < (a0.size : Int)) = false := decide_eq_false c2
   clear c2
   obtain rfl := Option.some.inj H
   go_wp2
   go_ret
   exact ⟨by first | rfl | (simp [bne, *]; done) | (simp; done), by repeat (first | exact Drawn0.refl _ | apply Drawn0.step)⟩

/-! ### r14_Header: function 55 -/
def r14_Header.f (k : Nat) (a0_0 : ByteArray) (a0_1 : ByteArray) : Option (Bool) := (r01_Token.f k a0_0).bind fun t112 => ((r14_shown.f k a0_1).bind fun t113 => (if t112 = true then (if t113 = true then ((r01_Trim.f k a0_1).bind fun t114 => (some (t114.toList == a0_1.toList))) else (some false)) else (some false)))
set_option maxHeartbeats 8000000 in
set_option maxRecDepth 100000 in
theorem r14_Header.calls (k : Nat) (a0_0 : ByteArray) (a0_1 : ByteArray) (r : Bool) (w : World) (h : r14_Header.f k a0_0 a0_1 = some r) :
  Calls Tryd.prog 55 #[.agg #[.string a0_0, .string a0_1]] w fun e w' => e = .returned (.bool r) ∧ Below w.heap.size w w' := by
 have hu25 := Tryd.underlying25
 have HB := Aside0.mk (Below.refl w.heap.size w)
 have H := h
 unfold r14_Header.f at H
 clear h
 replace H := Option.bind_eq_some_iff.mp H
 obtain ⟨t112, A20, H⟩ := H
 try dsimp only at H
 have A2 := Aside0.mk A20
 clear A20
 replace H := Option.bind_eq_some_iff.mp H
 obtain ⟨t113, A30, H⟩ := H
 try dsimp only at H
 have A3 := Aside0.mk A30
 clear A30
 by_cases c4 : t112 = true
 ·subst c4
  have H1 : (if t113 = true then ((r01_Trim.f k a0_1).bind fun t114 => (some (t114.toList == a0_1.toList))) else (some false)) = some r := by rw [if_pos rfl] at H; exact H
  clear H
  have H := H1
  clear H1
  by_cases c5 : t113 = true
  ·subst c5
   have H1 : ((r01_Trim.f k a0_1).bind fun t114 => (some (t114.toList == a0_1.toList))) = some r := by rw [if_pos rfl] at H; exact H
   clear H
   have H := H1
   clear H1
   replace H := Option.bind_eq_some_iff.mp H
   obtain ⟨t114, A60, H⟩ := H
   try dsimp only at H
   have A6 := Aside0.mk A60
   clear A60
   obtain rfl := Option.some.inj H
   go_enter Tryd.func55, Tryd.ntmps55
   go_wp2_with (first | ((with_reducible refine gate_dst (N := 1) rfl ?_); refine box_event ?hg (N := 1) ?hd (cs := #[.string a0_0, .string a0_1]) (t := 25) ?hr ?_; (case hd => rfl); (case hg => rfl); (case hr => first | (go_simp; done) | (go_simp; rfl)); intro gb111 hg w7 hbox hb; have BK111 := Aside0.mk (hbox); have GW111 := Aside0.mk ((by rw [hg]; exact (below_size (bel_later HB.out)) : w.heap.size ≤ gb111)); have GE111 := Aside0.mk ((by rw [hg]; exact (below_size (bel_later HB.out)) : w.heap.size ≤ gb111)); replace HB := Aside0.mk (below_step (bel_later HB.out) hb); clear hb hbox hg; have hq1 := fun j => blk_cell BK111.out j; have hq10 := fun j => blk_frozen BK111.out j) | (go_at_call 53; (with_reducible refine (r01_Token.calls k a0_0 true _ A2.out).mono ?_); rintro e w' ⟨rfl, ⟨nd, rfl⟩⟩; (try first | exact ⟨rfl, _, World.drewN_drewN _ _ _⟩ | exact ⟨rfl, _, Eq.trans (World.drewN_drewN _ _ _) (congrArg (World.drewN _) (Nat.add_assoc _ _ _))⟩)) | (go_at_call 91; (with_reducible refine (r14_shown.calls k a0_1 true _ A3.out).mono ?_); rintro e w' ⟨rfl, ⟨nd, rfl⟩⟩; (try first | exact ⟨rfl, _, World.drewN_drewN _ _ _⟩ | exact ⟨rfl, _, Eq.trans (World.drewN_drewN _ _ _) (congrArg (World.drewN _) (Nat.add_assoc _ _ _))⟩)) | (go_at_call 74; (with_reducible refine (r01_Trim.calls k a0_1 t114 _ A6.out).mono ?_); rintro e w' ⟨rfl, ⟨nd, rfl⟩⟩; (try first | exact ⟨rfl, _, World.drewN_drewN _ _ _⟩ | exact ⟨rfl, _, Eq.trans (World.drewN_drewN _ _ _) (congrArg (World.drewN _) (Nat.add_assoc _ _ _))⟩)))
   repeat (go_quiet (first | ((with_reducible refine gate_dst (N := 1) rfl ?_); refine box_event ?hg (N := 1) ?hd (cs := #[.string a0_0, .string a0_1]) (t := 25) ?hr ?_; (case hd => rfl); (case hg => rfl); (case hr => first | (go_simp; done) | (go_simp; rfl)); intro gb111 hg w7 hbox hb; have BK111 := Aside0.mk (hbox); have GW111 := Aside0.mk ((by rw [hg]; exact (below_size (bel_later HB.out)) : w.heap.size ≤ gb111)); have GE111 := Aside0.mk ((by rw [hg]; exact (below_size (bel_later HB.out)) : w.heap.size ≤ gb111)); replace HB := Aside0.mk (below_step (bel_later HB.out) hb); clear hb hbox hg; have hq2 := fun j => blk_cell BK111.out j; have hq11 := fun j => blk_frozen BK111.out j) | (go_at_call 53; (with_reducible refine (r01_Token.calls k a0_0 true _ A2.out).mono ?_); rintro e w' ⟨rfl, ⟨nd, rfl⟩⟩; (try first | exact ⟨rfl, _, World.drewN_drewN _ _ _⟩ | exact ⟨rfl, _, Eq.trans (World.drewN_drewN _ _ _) (congrArg (World.drewN _) (Nat.add_assoc _ _ _))⟩)) | (go_at_call 91; (with_reducible refine (r14_shown.calls k a0_1 true _ A3.out).mono ?_); rintro e w' ⟨rfl, ⟨nd, rfl⟩⟩; (try first | exact ⟨rfl, _, World.drewN_drewN _ _ _⟩ | exact ⟨rfl, _, Eq.trans (World.drewN_drewN _ _ _) (congrArg (World.drewN _) (Nat.add_assoc _ _ _))⟩)) | (go_at_call 74; (with_reducible refine (r01_Trim.calls k a0_1 t114 _ A6.out).mono ?_); rintro e w' ⟨rfl, ⟨nd, rfl⟩⟩; (try first | exact ⟨rfl, _, World.drewN_drewN _ _ _⟩ | exact ⟨rfl, _, Eq.trans (World.drewN_drewN _ _ _) (congrArg (World.drewN _) (Nat.add_assoc _ _ _))⟩))); try go_wp2_with (first | ((with_reducible refine gate_dst (N := 1) rfl ?_); refine box_event ?hg (N := 1) ?hd (cs := #[.string a0_0, .string a0_1]) (t := 25) ?hr ?_; (case hd => rfl); (case hg => rfl); (case hr => first | (go_simp; done) | (go_simp; rfl)); intro gb111 hg w7 hbox hb; have BK111 := Aside0.mk (hbox); have GW111 := Aside0.mk ((by rw [hg]; exact (below_size (bel_later HB.out)) : w.heap.size ≤ gb111)); have GE111 := Aside0.mk ((by rw [hg]; exact (below_size (bel_later HB.out)) : w.heap.size ≤ gb111)); replace HB := Aside0.mk (below_step (bel_later HB.out) hb); clear hb hbox hg; have hq3 := fun j => blk_cell BK111.out j; have hq12 := fun j => blk_frozen BK111.out j) | (go_at_call 53; (with_reducible refine (r01_Token.calls k a0_0 true _ A2.out).mono ?_); rintro e w' ⟨rfl, ⟨nd, rfl⟩⟩; (try first | exact ⟨rfl, _, World.drewN_drewN _ _ _⟩ | exact ⟨rfl, _, Eq.trans (World.drewN_drewN _ _ _) (congrArg (World.drewN _) (Nat.add_assoc _ _ _))⟩)) | (go_at_call 91; (with_reducible refine (r14_shown.calls k a0_1 true _ A3.out).mono ?_); rintro e w' ⟨rfl, ⟨nd, rfl⟩⟩; (try first | exact ⟨rfl, _, World.drewN_drewN _ _ _⟩ | exact ⟨rfl, _, Eq.trans (World.drewN_drewN _ _ _) (congrArg (World.drewN _) (Nat.add_assoc _ _ _))⟩)) | (go_at_call 74; (with_reducible refine (r01_Trim.calls k a0_1 t114 _ A6.out).mono ?_); rintro e w' ⟨rfl, ⟨nd, rfl⟩⟩; (try first | exact ⟨rfl, _, World.drewN_drewN _ _ _⟩ | exact ⟨rfl, _, Eq.trans (World.drewN_drewN _ _ _) (congrArg (World.drewN _) (Nat.add_assoc _ _ _))⟩))))
   go_ret
   exact ⟨by first | rfl | (simp [errW_none, errW_some] <;> rfl) | (simp [*, errW_none, errW_some] <;> rfl), by repeat (first | (with_reducible first | exact HB.out | apply below_alloc | apply pw_below_drewN | apply below_drew1 | refine below_set ?_ GE111.out) | exact HB.out)⟩
  replace c5 := Bool.eq_false_iff.mpr c5
  subst c5
  have H1 : (some false) = some r := by rw [if_neg (show ¬ (false = true) by decide)] at H; exact H
  clear H
  have H := H1
  clear H1
  obtain rfl := Option.some.inj H
  go_enter Tryd.func55, Tryd.ntmps55
  go_wp2_with (first | ((with_reducible refine gate_dst (N := 1) rfl ?_); refine box_event ?hg (N := 1) ?hd (cs := #[.string a0_0, .string a0_1]) (t := 25) ?hr ?_; (case hd => rfl); (case hg => rfl); (case hr => first | (go_simp; done) | (go_simp; rfl)); intro gb111 hg w9 hbox hb; have BK111 := Aside0.mk (hbox); have GW111 := Aside0.mk ((by rw [hg]; exact (below_size (bel_later HB.out)) : w.heap.size ≤ gb111)); have GE111 := Aside0.mk ((by rw [hg]; exact (below_size (bel_later HB.out)) : w.heap.size ≤ gb111)); replace HB := Aside0.mk (below_step (bel_later HB.out) hb); clear hb hbox hg; have hq4 := fun j => blk_cell BK111.out j; have hq13 := fun j => blk_frozen BK111.out j) | (go_at_call 53; (with_reducible refine (r01_Token.calls k a0_0 true _ A2.out).mono ?_); rintro e w' ⟨rfl, ⟨nd, rfl⟩⟩; (try first | exact ⟨rfl, _, World.drewN_drewN _ _ _⟩ | exact ⟨rfl, _, Eq.trans (World.drewN_drewN _ _ _) (congrArg (World.drewN _) (Nat.add_assoc _ _ _))⟩)) | (go_at_call 91; (with_reducible refine (r14_shown.calls k a0_1 false _ A3.out).mono ?_); rintro e w' ⟨rfl, ⟨nd, rfl⟩⟩; (try first | exact ⟨rfl, _, World.drewN_drewN _ _ _⟩ | exact ⟨rfl, _, Eq.trans (World.drewN_drewN _ _ _) (congrArg (World.drewN _) (Nat.add_assoc _ _ _))⟩)))
  repeat (go_quiet (first | ((with_reducible refine gate_dst (N := 1) rfl ?_); refine box_event ?hg (N := 1) ?hd (cs := #[.string a0_0, .string a0_1]) (t := 25) ?hr ?_; (case hd => rfl); (case hg => rfl); (case hr => first | (go_simp; done) | (go_simp; rfl)); intro gb111 hg w9 hbox hb; have BK111 := Aside0.mk (hbox); have GW111 := Aside0.mk ((by rw [hg]; exact (below_size (bel_later HB.out)) : w.heap.size ≤ gb111)); have GE111 := Aside0.mk ((by rw [hg]; exact (below_size (bel_later HB.out)) : w.heap.size ≤ gb111)); replace HB := Aside0.mk (below_step (bel_later HB.out) hb); clear hb hbox hg; have hq5 := fun j => blk_cell BK111.out j; have hq14 := fun j => blk_frozen BK111.out j) | (go_at_call 53; (with_reducible refine (r01_Token.calls k a0_0 true _ A2.out).mono ?_); rintro e w' ⟨rfl, ⟨nd, rfl⟩⟩; (try first | exact ⟨rfl, _, World.drewN_drewN _ _ _⟩ | exact ⟨rfl, _, Eq.trans (World.drewN_drewN _ _ _) (congrArg (World.drewN _) (Nat.add_assoc _ _ _))⟩)) | (go_at_call 91; (with_reducible refine (r14_shown.calls k a0_1 false _ A3.out).mono ?_); rintro e w' ⟨rfl, ⟨nd, rfl⟩⟩; (try first | exact ⟨rfl, _, World.drewN_drewN _ _ _⟩ | exact ⟨rfl, _, Eq.trans (World.drewN_drewN _ _ _) (congrArg (World.drewN _) (Nat.add_assoc _ _ _))⟩))); try go_wp2_with (first | ((with_reducible refine gate_dst (N := 1) rfl ?_); refine box_event ?hg (N := 1) ?hd (cs := #[.string a0_0, .string a0_1]) (t := 25) ?hr ?_; (case hd => rfl); (case hg => rfl); (case hr => first | (go_simp; done) | (go_simp; rfl)); intro gb111 hg w9 hbox hb; have BK111 := Aside0.mk (hbox); have GW111 := Aside0.mk ((by rw [hg]; exact (below_size (bel_later HB.out)) : w.heap.size ≤ gb111)); have GE111 := Aside0.mk ((by rw [hg]; exact (below_size (bel_later HB.out)) : w.heap.size ≤ gb111)); replace HB := Aside0.mk (below_step (bel_later HB.out) hb); clear hb hbox hg; have hq6 := fun j => blk_cell BK111.out j; have hq15 := fun j => blk_frozen BK111.out j) | (go_at_call 53; (with_reducible refine (r01_Token.calls k a0_0 true _ A2.out).mono ?_); rintro e w' ⟨rfl, ⟨nd, rfl⟩⟩; (try first | exact ⟨rfl, _, World.drewN_drewN _ _ _⟩ | exact ⟨rfl, _, Eq.trans (World.drewN_drewN _ _ _) (congrArg (World.drewN _) (Nat.add_assoc _ _ _))⟩)) | (go_at_call 91; (with_reducible refine (r14_shown.calls k a0_1 false _ A3.out).mono ?_); rintro e w' ⟨rfl, ⟨nd, rfl⟩⟩; (try first | exact ⟨rfl, _, World.drewN_drewN _ _ _⟩ | exact ⟨rfl, _, Eq.trans (World.drewN_drewN _ _ _) (congrArg (World.drewN _) (Nat.add_assoc _ _ _))⟩))))
  go_ret
  exact ⟨by first | rfl | (simp [errW_none, errW_some] <;> rfl) | (simp [*, errW_none, errW_some] <;> rfl), by repeat (first | (with_reducible first | exact HB.out | apply below_alloc | apply pw_below_drewN | apply below_drew1 | refine below_set ?_ GE111.out) | exact HB.out)⟩
 replace c4 := Bool.eq_false_iff.mpr c4
 subst c4
 have H1 : (some false) = some r := by rw [if_neg (show ¬ (false = true) by decide)] at H; exact H
 clear H
 have H := H1
 clear H1
 obtain rfl := Option.some.inj H
 go_enter Tryd.func55, Tryd.ntmps55
 go_wp2_with (first | ((with_reducible refine gate_dst (N := 1) rfl ?_); refine box_event ?hg (N := 1) ?hd (cs := #[.string a0_0, .string a0_1]) (t := 25) ?hr ?_; (case hd => rfl); (case hg => rfl); (case hr => first | (go_simp; done) | (go_simp; rfl)); intro gb111 hg w11 hbox hb; have BK111 := Aside0.mk (hbox); have GW111 := Aside0.mk ((by rw [hg]; exact (below_size (bel_later HB.out)) : w.heap.size ≤ gb111)); have GE111 := Aside0.mk ((by rw [hg]; exact (below_size (bel_later HB.out)) : w.heap.size ≤ gb111)); replace HB := Aside0.mk (below_step (bel_later HB.out) hb); clear hb hbox hg; have hq7 := fun j => blk_cell BK111.out j; have hq16 := fun j => blk_frozen BK111.out j) | (go_at_call 53; (with_reducible refine (r01_Token.calls k a0_0 false _ A2.out).mono ?_); rintro e w' ⟨rfl, ⟨nd, rfl⟩⟩; (try first | exact ⟨rfl, _, World.drewN_drewN _ _ _⟩ | exact ⟨rfl, _, Eq.trans (World.drewN_drewN _ _ _) (congrArg (World.drewN _) (Nat.add_assoc _ _ _))⟩)) | (go_at_call 91; (with_reducible refine (r14_shown.calls k a0_1 t113 _ A3.out).mono ?_); rintro e w' ⟨rfl, ⟨nd, rfl⟩⟩; (try first | exact ⟨rfl, _, World.drewN_drewN _ _ _⟩ | exact ⟨rfl, _, Eq.trans (World.drewN_drewN _ _ _) (congrArg (World.drewN _) (Nat.add_assoc _ _ _))⟩)))
 repeat (go_quiet (first | ((with_reducible refine gate_dst (N := 1) rfl ?_); refine box_event ?hg (N := 1) ?hd (cs := #[.string a0_0, .string a0_1]) (t := 25) ?hr ?_; (case hd => rfl); (case hg => rfl); (case hr => first | (go_simp; done) | (go_simp; rfl)); intro gb111 hg w11 hbox hb; have BK111 := Aside0.mk (hbox); have GW111 := Aside0.mk ((by rw [hg]; exact (below_size (bel_later HB.out)) : w.heap.size ≤ gb111)); have GE111 := Aside0.mk ((by rw [hg]; exact (below_size (bel_later HB.out)) : w.heap.size ≤ gb111)); replace HB := Aside0.mk (below_step (bel_later HB.out) hb); clear hb hbox hg; have hq8 := fun j => blk_cell BK111.out j; have hq17 := fun j => blk_frozen BK111.out j) | (go_at_call 53; (with_reducible refine (r01_Token.calls k a0_0 false _ A2.out).mono ?_); rintro e w' ⟨rfl, ⟨nd, rfl⟩⟩; (try first | exact ⟨rfl, _, World.drewN_drewN _ _ _⟩ | exact ⟨rfl, _, Eq.trans (World.drewN_drewN _ _ _) (congrArg (World.drewN _) (Nat.add_assoc _ _ _))⟩)) | (go_at_call 91; (with_reducible refine (r14_shown.calls k a0_1 t113 _ A3.out).mono ?_); rintro e w' ⟨rfl, ⟨nd, rfl⟩⟩; (try first | exact ⟨rfl, _, World.drewN_drewN _ _ _⟩ | exact ⟨rfl, _, Eq.trans (World.drewN_drewN _ _ _) (congrArg (World.drewN _) (Nat.add_assoc _ _ _))⟩))); try go_wp2_with (first | ((with_reducible refine gate_dst (N := 1) rfl ?_); refine box_event ?hg (N := 1) ?hd (cs := #[.string a0_0, .string a0_1]) (t := 25) ?hr ?_; (case hd => rfl); (case hg => rfl); (case hr => first | (go_simp; done) | (go_simp; rfl)); intro gb111 hg w11 hbox hb; have BK111 := Aside0.mk (hbox); have GW111 := Aside0.mk ((by rw [hg]; exact (below_size (bel_later HB.out)) : w.heap.size ≤ gb111)); have GE111 := Aside0.mk ((by rw [hg]; exact (below_size (bel_later HB.out)) : w.heap.size ≤ gb111)); replace HB := Aside0.mk (below_step (bel_later HB.out) hb); clear hb hbox hg; have hq9 := fun j => blk_cell BK111.out j; have hq18 := fun j => blk_frozen BK111.out j) | (go_at_call 53; (with_reducible refine (r01_Token.calls k a0_0 false _ A2.out).mono ?_); rintro e w' ⟨rfl, ⟨nd, rfl⟩⟩; (try first | exact ⟨rfl, _, World.drewN_drewN _ _ _⟩ | exact ⟨rfl, _, Eq.trans (World.drewN_drewN _ _ _) (congrArg (World.drewN _) (Nat.add_assoc _ _ _))⟩)) | (go_at_call 91; (with_reducible refine (r14_shown.calls k a0_1 t113 _ A3.out).mono ?_); rintro e w' ⟨rfl, ⟨nd, rfl⟩⟩; (try first | exact ⟨rfl, _, World.drewN_drewN _ _ _⟩ | exact ⟨rfl, _, Eq.trans (World.drewN_drewN _ _ _) (congrArg (World.drewN _) (Nat.add_assoc _ _ _))⟩))))
 go_ret
 exact ⟨by first | rfl | (simp [errW_none, errW_some] <;> rfl) | (simp [*, errW_none, errW_some] <;> rfl), by repeat (first | (with_reducible first | exact HB.out | apply below_alloc | apply pw_below_drewN | apply below_drew1 | refine below_set ?_ GE111.out) | exact HB.out)⟩

/-! ### r14_Lines: function 62 -/
def r14_Lines.l0 : Nat → List (S25) → ByteArray → Int → Option (ByteArray)
 | 0, _, _, _ => none
 | k + 1, x0, x3, x4 => if x4 < (x0.length : Int) then (if 0 ≤ x4 then (if x3.size + ((rd_T25 x0 x4).f0).size ≤ 9223372036854775807 then (if (x3 ++ ((rd_T25 x0 x4).f0)).size + 2 ≤ 9223372036854775807 then (if ((x3 ++ ((rd_T25 x0 x4).f0)) ++ (⟨#[58, 32]⟩ : ByteArray)).size + ((rd_T25 x0 x4).f1).size ≤ 9223372036854775807 then (if (((x3 ++ ((rd_T25 x0 x4).f0)) ++ (⟨#[58, 32]⟩ : ByteArray)) ++ ((rd_T25 x0 x4).f1)).size + 2 ≤ 9223372036854775807 then (r14_Lines.l0 k x0 ((((x3 ++ ((rd_T25 x0 x4).f0)) ++ (⟨#[58, 32]⟩ : ByteArray)) ++ ((rd_T25 x0 x4).f1)) ++ (⟨#[13, 10]⟩ : ByteArray)) (wrap64 (x4 + 1))) else (none)) else (none)) else (none)) else (none)) else (none)) else (if x3.size + 2 ≤ 9223372036854775807 then (some (x3 ++ (⟨#[13, 10]⟩ : ByteArray))) else (none))
def r14_Lines.f (k : Nat) (l0 : List (S25)) : Option (ByteArray) := r14_Lines.l0 k l0 (⟨#[]⟩ : ByteArray) 0
set_option maxHeartbeats 8000000 in
set_option maxRecDepth 100000 in
theorem r14_Lines.calls (k : Nat) (A0 : Option Addr) (c0 : Nat) (l0 : List (S25)) (r : ByteArray) (w : World) (hr0 : Kd.C k25 w A0 l0.length l0) (hc0 : l0.length ≤ c0) (h : r14_Lines.f k l0 = some r) :
  Calls Tryd.prog 62 #[.slice A0 l0.length c0] w fun e w' => e = .returned (.string r) ∧ Drawn0 w w' := by
 have HR0 := Aside0.mk hr0
 have HC0 := Aside0.mk hc0
 clear hr0 hc0
 have H := h
 unfold r14_Lines.f at H
 clear h
 have H' := Aside0.mk H
 clear H
 go_enter Tryd.func62, Tryd.ntmps62
 go_wp2
 repeat (go_quiet (fail); try go_wp2)
 go_loopg [3, 4] k (fun kq v3 v4 w' => ∃ (x3_1 : ByteArray) (x4_1 : Int), v3 = .string x3_1 ∧ v4 = .int .i64 x4_1 ∧ Aside0 (r14_Lines.l0 kq l0 x3_1 x4_1 = some r) ∧ Aside0 (kq ≤ k) ∧ Drawn0 w w')
 case atStart => exact ⟨((⟨#[]⟩ : ByteArray)), (0), (by first | rfl | (simp [bne, *]; done) | (simp; done)), (by first | rfl | (simp [bne, *]; done) | (simp; done)), H', ⟨Nat.le_refl _⟩, by repeat (first | exact Drawn0.refl _ | apply Drawn0.step)⟩
 case round =>
  clear H'
  obtain ⟨x3_1, x4_1, rfl, rfl, HA, HK1, ⟨m1, rfl⟩⟩ := hrel
  cases gk with
  | zero => exact absurd HA.out (by simp [r14_Lines.l0])
  | succ k1 =>
   have H := HA.out
   clear HA
   simp only [r14_Lines.l0] at H
   by_cases c2 : x4_1 < (l0.length : Int)
   ·rw [if_pos c2] at H
    have c2b0 : decide (x4_1 < (l0.length : Int)) = true := decide_eq_true c2
    clear c2
    by_cases c3 : 0 ≤ x4_1
    ·rw [if_pos c3] at H
     have c3b0 : decide (0 ≤ x4_1) = true := decide_eq_true c3
     clear c3
     by_cases c4 : x3_1.size + ((rd_T25 l0 x4_1).f0).size ≤ 9223372036854775807
     ·rw [if_pos c4] at H
      have c4b0 := eq_true c4
      have c4b1 : decide (x3_1.size + ((rd_T25 l0 x4_1).f0).size ≤ 9223372036854775807) = true := decide_eq_true c4
      try have c4b2 : (9223372036854775807 < x3_1.size + ((rd_T25 l0 x4_1).f0).size) = False := eq_false (Nat.not_lt.2 c4)
      by_cases c5 : (x3_1 ++ ((rd_T25 l0 x4_1).f0)).size + 2 ≤ 9223372036854775807
      ·rw [if_pos c5] at H
       have c5b0 := eq_true c5
       have c5b1 : decide ((x3_1 ++ ((rd_T25 l0 x4_1).f0)).size + 2 ≤ 9223372036854775807) = true := decide_eq_true c5
       try have c5b2 : (9223372036854775807 < (x3_1 ++ ((rd_T25 l0 x4_1).f0)).size + 2) = False := eq_false (Nat.not_lt.2 c5)
       try (have c5b4 := c5b2; simp only [ByteArray.size_append] at c5b4)
       by_cases c6 : ((x3_1 ++ ((rd_T25 l0 x4_1).f0)) ++ (⟨#[58, 32]⟩ : ByteArray)).size + ((rd_T25 l0 x4_1).f1).size ≤ 9223372036854775807
       ·rw [if_pos c6] at H
        have c6b0 := eq_true c6
        have c6b1 : decide (((x3_1 ++ ((rd_T25 l0 x4_1).f0)) ++ (⟨#[58, 32]⟩ : ByteArray)).size + ((rd_T25 l0 x4_1).f1).size ≤ 9223372036854775807) = true := decide_eq_true c6
        try have c6b2 : (9223372036854775807 < ((x3_1 ++ ((rd_T25 l0 x4_1).f0)) ++ (⟨#[58, 32]⟩ : ByteArray)).size + ((rd_T25 l0 x4_1).f1).size) = False := eq_false (Nat.not_lt.2 c6)
        try (have c6b4 := c6b2; simp only [ByteArray.size_append, show (⟨#[58, 32]⟩ : ByteArray).size = 2 from rfl] at c6b4)
        by_cases c7 : (((x3_1 ++ ((rd_T25 l0 x4_1).f0)) ++ (⟨#[58, 32]⟩ : ByteArray)) ++ ((rd_T25 l0 x4_1).f1)).size + 2 ≤ 9223372036854775807
        ·rw [if_pos c7] at H
         have c7b0 := eq_true c7
         have c7b1 : decide ((((x3_1 ++ ((rd_T25 l0 x4_1).f0)) ++ (⟨#[58, 32]⟩ : ByteArray)) ++ ((rd_T25 l0 x4_1).f1)).size + 2 ≤ 9223372036854775807) = true := decide_eq_true c7
         try have c7b2 : (9223372036854775807 < (((x3_1 ++ ((rd_T25 l0 x4_1).f0)) ++ (⟨#[58, 32]⟩ : ByteArray)) ++ ((rd_T25 l0 x4_1).f1)).size + 2) = False := eq_false (Nat.not_lt.2 c7)
         try (have c7b4 := c7b2; simp only [ByteArray.size_append, show (⟨#[58, 32]⟩ : ByteArray).size = 2 from rfl] at c7b4)
         have H' := Aside0.mk H
         clear H
         have p115 : 0 ≤ (x4_1 : Int) := of_decide_eq_true (by first | (with_reducible assumption) | assumption)
         have q115 : x4_1 < (l0.length : Int) := of_decide_eq_true (by first | (with_reducible assumption) | assumption)
         obtain ⟨ad115, e115, hx115_0, hx115_1⟩ := at_T25 HR0.out x4_1 p115 q115
         cases e115
         replace p115 := eq_true p115
         replace q115 := eq_true q115
         have p116 : 0 ≤ (x4_1 : Int) := of_decide_eq_true (by first | (with_reducible assumption) | assumption)
         have q116 : x4_1 < (l0.length : Int) := of_decide_eq_true (by first | (with_reducible assumption) | assumption)
         obtain ⟨ad116, e116, hx116_0, hx116_1⟩ := at_T25 HR0.out x4_1 p116 q116
         obtain rfl : ad115 = ad116 := (by injection e116)
         replace p116 := eq_true p116
         replace q116 := eq_true q116
         go_wp2
         repeat (go_quiet (fail); try go_wp2)
         go_roundg k1
         case measure => have := HK1.out; omega
         case rel => exact ⟨((((x3_1 ++ ((rd_T25 l0 x4_1).f0)) ++ (⟨#[58, 32]⟩ : ByteArray)) ++ ((rd_T25 l0 x4_1).f1)) ++ (⟨#[13, 10]⟩ : ByteArray)), (wrap64 (x4_1 + 1)), (by first | rfl | (simp [bne, *]; done) | (simp; done)), (by first | rfl | (simp [bne, *]; done) | (simp; done)), H', ⟨by have := HK1.out; omega⟩, by repeat (first | exact Drawn0.refl _ | apply Drawn0.step)⟩
        rw [if_neg c7] at H
        exact absurd H (by simp)
       rw [if_neg c6] at H
       exact absurd H (by simp)
      rw [if_neg c5] at H
      exact absurd H (by simp)
     rw [if_neg c4] at H
     exact absurd H (by simp)
    rw [if_neg c3] at H
    exact absurd H (by simp)
   rw [if_neg c2] at H
   have c2b0 : decide (x4_1 < (l0.length : Int)) = false := decide_eq_false c2
   clear c2
   by_cases c8 : x3_1.size + 2 ≤ 9223372036854775807
   ·rw [if_pos c8] at H
    have c8b0 := eq_true c8
    have c8b1 : decide (x3_1.size + 2 ≤ 9223372036854775807) = true := decide_eq_true c8
    try have c8b2 : (9223372036854775807 < x3_1.size + 2) = False := eq_false (Nat.not_lt.2 c8)
    obtain rfl := Option.some.inj H
    go_wp2
    repeat (go_quiet (fail); try go_wp2)
    go_ret
    exact ⟨by first | rfl | (simp [bne, *]; done) | (simp; done), by repeat (first | exact Drawn0.refl _ | apply Drawn0.step)⟩
   rw [if_neg c8] at H
   exact absurd H (by simp)

/-! ### r14_Print: function 31 -/

/-! ### r14_Good: function 32 -/


theorem eqA25 (d : Nat) (w : World) (x0 y0 : ByteArray) (x1 y1 : ByteArray) :
  (Op.equalIn (d + 2) 25 (.agg #[.string x0, .string x1]) (.agg #[.string y0, .string y1])).run Tryd.prog w = .ok (x0.toList == y0.toList && (x1.toList == y1.toList)) w := by
 refine eqA_of Tryd.underlying25 (by kernel_rfl) ?_
 refine eqf_cons (by rfl) (by go_simp; rfl) (by go_simp; rfl) (by go_simp) ?_
 exact eqf_last (by rfl) (by go_simp; rfl) (by go_simp; rfl) (by go_simp)
end Go.Proofs.YthjhbhgfckaklaaDoor.P
end
