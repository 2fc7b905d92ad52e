-- PRINTED by pr.py (a driver round the kit's print program): not trusted, Lean checks it.
import Derived.Test.YthjhbhgfckaklaaDoorPb
import Derived.Test.YthjhbhgfckaklaaDoorStrs
import Derived.Test.YthjhbhgfckaklaaDoorPA1
import Derived.Test.YthjhbhgfckaklaaDoorPR1
import Derived.Test.YthjhbhgfckaklaaDoorPreA
import Derived.Test.YthjhbhgfckaklaaDoorPQ1
namespace Go.Proofs.YthjhbhgfckaklaaDoor.P
open Go.RowKit Go.Proofs.YthjhbhgfckaklaaDoorW.PrintWords Go.Proofs.YthjhbhgfckaklaaDoorW.PrintLast Go.Proofs.YthjhbhgfckaklaaDoorW.PrintMore
attribute [local go_sem] max2_int min2_int max_two min_two max_three min_three max_four min_four   -- for this text's walks alone
set_option linter.unusedVariables false
set_option linter.unusedSimpArgs false

/-! ### abatislaw17_PreflightAges: function 6 -/
def abatislaw17_PreflightAges.l0 : Nat → Int → ByteArray → Bool → Int → Option (Bool)
  | 0, _, _, _, _ => none
  | k + 1, x0, x1, x5, x6 => if x6 < (x1.size : Int) then (if x5 = true then (if 0 ≤ x6 then (if (bt x1 x6) ≥ 48 then (abatislaw17_PreflightAges.l0 k x0 x1 (decide ((bt x1 x6) ≤ 57)) (wrap64 (x6 + 1))) else (abatislaw17_PreflightAges.l0 k x0 x1 false (wrap64 (x6 + 1)))) else (none)) else (abatislaw17_PreflightAges.l0 k x0 x1 false (wrap64 (x6 + 1)))) else ((abatisref01_Decimal.f k x0).bind fun t158 => ((preflight_Age.f (([(⟨(⟨#[97, 99, 99, 101, 115, 115, 45, 99, 111, 110, 116, 114, 111, 108, 45, 77, 65, 88, 45, 97, 103, 101]⟩ : ByteArray), t158⟩ : S25)] : List (S25)))).bind fun t162 => ((preflight_Age.f (([(⟨(⟨#[65, 99, 99, 101, 115, 115, 45, 67, 111, 110, 116, 114, 111, 108, 45, 77, 97, 120, 45, 65, 103, 101]⟩ : ByteArray), x1⟩ : S25)] : List (S25)))).bind fun t166 => ((abatisref01_Decimal.f k x0).bind fun t167 => (if 1 + t167.size ≤ 9223372036854775807 then ((preflight_Age.f (([(⟨(⟨#[65, 99, 99, 101, 115, 115, 45, 67, 111, 110, 116, 114, 111, 108, 45, 77, 97, 120, 45, 65, 103, 101]⟩ : ByteArray), (⟨#[45]⟩ : ByteArray) ++ t167⟩ : S25)] : List (S25)))).bind fun t171 => (if t162 = (mn x0 7200) then (if x5 = true then (if t166 ≥ 0 then (if t166 ≤ 7200 then (if t171 = 5 then ((abatislaw17_lives.f).bind fun t172 => (some t172)) else (none)) else (none)) else (none)) else (if t166 = 5 then (if t166 ≥ 0 then (if t166 ≤ 7200 then (if t171 = 5 then ((abatislaw17_lives.f).bind fun t173 => (some t173)) else (none)) else (none)) else (none)) else (none))) else (none))) else (none))))))
def abatislaw17_PreflightAges.f (k : Nat) (a0 : Int) (a1 : ByteArray) : Option (Bool) := (abatisref01_Around.f a0 100001).bind fun t156 => ((abatisref01_Few.f a1 20).bind fun t157 => (abatislaw17_PreflightAges.l0 k t156 t157 (t157.toList != ([] : List UInt8)) 0))
theorem abatislaw17_PreflightAges.mono_l : ∀ k, (∀ y0 y1 y2 y3, LeO (abatislaw17_PreflightAges.l0 k y0 y1 y2 y3) (abatislaw17_PreflightAges.l0 (k + 1) y0 y1 y2 y3))
  | 0 => fun _ _ _ _ r h => by simp [abatislaw17_PreflightAges.l0] at h
  | k + 1 => by
    have ih0 := abatislaw17_PreflightAges.mono_l k
    · intro y0 y1 y2 y3
      unfold abatislaw17_PreflightAges.l0
      repeat' first
      | (with_reducible exact ih0 _ _ _ _)
      | (with_reducible exact abatisref01_Decimal.mono _ _)
      | (with_reducible exact LeO.refl _)
      | (with_reducible exact LeO.none _)
      | (with_reducible refine LeO.ite ?_ ?_)
      | (with_reducible refine LeO.bind ?_ (fun _ => ?_))
      | exact ih0 _ _ _ _
      | exact abatisref01_Decimal.mono _ _
      | exact LeO.none _
      | refine LeO.ite ?_ ?_
      | refine LeO.bind ?_ (fun _ => ?_)
theorem abatislaw17_PreflightAges.mono : ∀ a0 a1 k, LeO (abatislaw17_PreflightAges.f k a0 a1) (abatislaw17_PreflightAges.f (k + 1) a0 a1) := by
  intro a0 a1 k
  have ih0 := abatislaw17_PreflightAges.mono_l k
  unfold abatislaw17_PreflightAges.f
  repeat' first
      | (with_reducible exact ih0 _ _ _ _)
      | (with_reducible exact abatisref01_Decimal.mono _ _)
      | (with_reducible exact LeO.refl _)
      | (with_reducible exact LeO.none _)
      | (with_reducible refine LeO.ite ?_ ?_)
      | (with_reducible refine LeO.bind ?_ (fun _ => ?_))
      | exact ih0 _ _ _ _
      | exact abatisref01_Decimal.mono _ _
      | exact LeO.none _
      | refine LeO.ite ?_ ?_
      | refine LeO.bind ?_ (fun _ => ?_)
set_option maxHeartbeats 8000000 in
set_option maxRecDepth 100000 in
theorem abatislaw17_PreflightAges.calls (k : Nat) (a0 : Int) (a1 : ByteArray) (r : Bool) (w : World) (hmx : MaxIs w) (h : abatislaw17_PreflightAges.f k a0 a1 = some r) :
    Calls Tryd.prog 6 #[.int .i64 a0, .string a1] w fun e w' => e = .returned (.bool r) ∧ Below w.heap.size w w' := by
  have hu25 := Tryd.underlying25
  have HB := Aside0.mk (Below.refl w.heap.size w)
  have HMX := Aside0.mk hmx
  clear hmx
  have H : ((abatisref01_Around.f a0 100001).bind fun t156 => ((abatisref01_Few.f a1 20).bind fun t157 => (abatislaw17_PreflightAges.l0 k t156 t157 (t157.toList != ([] : List UInt8)) 0))) = some r := h
  clear h
  replace H := Option.bind_eq_some_iff.mp H
  obtain ⟨t156, A30, H⟩ := H
  replace H : ((abatisref01_Few.f a1 20).bind fun t157 => (abatislaw17_PreflightAges.l0 k t156 t157 (t157.toList != ([] : List UInt8)) 0)) = some r := H
  have A3 := Aside0.mk A30
  clear A30
  replace H := Option.bind_eq_some_iff.mp H
  obtain ⟨t157, A40, H⟩ := H
  replace H : (abatislaw17_PreflightAges.l0 k t156 t157 (t157.toList != ([] : List UInt8)) 0) = some r := H
  have A4 := Aside0.mk A40
  clear A40
  have H' := Aside0.mk H
  clear H
  go_enter Tryd.func6, Tryd.ntmps6
  go_wp2_with (first | ((with_reducible refine gate_callee (f := 28) rfl ?_); refine goesL_ (some 11) rfl rfl Tryd.func28 (by kernel_rfl) rfl #[.int .i64 a0, .int .i64 100001] rfl (by (try simp only [List.map_toArray, List.map_cons, List.map_nil]); first | done | rfl | (simp only [List.length_drop, List.length_take]; rfl)) ?_; (with_reducible refine (abatisref01_Around.calls a0 100001 t156 _ A3.out).mono ?_); rintro e w' ⟨rfl, ⟨nd, rfl⟩⟩; refine ⟨_, rfl, ?_⟩) | ((with_reducible refine gate_callee (f := 8) rfl ?_); refine goesL_ (some 13) rfl rfl Tryd.func8 (by kernel_rfl) rfl #[.string a1, .int .i64 20] rfl (by (try simp only [List.map_toArray, List.map_cons, List.map_nil]); first | done | rfl | (simp only [List.length_drop, List.length_take]; rfl)) ?_; (with_reducible refine (abatisref01_Few.calls a1 20 t157 _ A4.out).mono ?_); rintro e w' ⟨rfl, ⟨nd, rfl⟩⟩; refine ⟨_, rfl, ?_⟩))
  go_loopg [5, 6] k (fun kq v5 v6 w' => ∃ (x5_1 : Bool) (x6_1 : Int), v5 = .bool x5_1 ∧ v6 = .int .i64 x6_1 ∧ Aside0 (abatislaw17_PreflightAges.l0 kq t156 t157 x5_1 x6_1 = some r) ∧ Aside0 (kq ≤ k) ∧ Aside0 (Below w.heap.size w w'))
  case atStart => exact ⟨((t157.toList != ([] : List UInt8))), (0), (by first | rfl | (simp; done) | (simp [*]; done) | (simp [bne]; done) | (simp [bne, *]; done)), (by first | rfl | (simp; done) | (simp [*]; done) | (simp [bne]; done) | (simp [bne, *]; done)), H', ⟨Nat.le_refl _⟩, ⟨by repeat (first | (with_reducible first | exact HB.out | apply below_alloc | apply pw_below_drewN | apply below_drew1) | exact HB.out)⟩⟩
  case round =>
    clear H'
    try clear c2
    try clear p2
    obtain ⟨x5_1, x6_1, rfl, rfl, HA, HK1, HB⟩ := hrel
    cases gk with
    | zero => exact absurd HA.out (by simp [abatislaw17_PreflightAges.l0])
    | succ k1 =>
      have H := HA.out
      clear HA
      simp only [abatislaw17_PreflightAges.l0] at H
      by_cases c5 : x6_1 < (t157.size : Int)
      · rw [if_pos c5] at H
        have c5b0 : decide (x6_1 < (t157.size : Int)) = true := decide_eq_true c5
        clear c5
        by_cases c6 : x5_1 = true
        · subst c6
          have H1 : (if 0 ≤ x6_1 then (if (bt t157 x6_1) ≥ 48 then (abatislaw17_PreflightAges.l0 k1 t156 t157 (decide ((bt t157 x6_1) ≤ 57)) (wrap64 (x6_1 + 1))) else (abatislaw17_PreflightAges.l0 k1 t156 t157 false (wrap64 (x6_1 + 1)))) else (none)) = some r := by rw [if_pos rfl] at H; exact H
          clear H
          have H := H1
          clear H1
          by_cases c7 : 0 ≤ x6_1
          · rw [if_pos c7] at H
            have c7b0 : decide (0 ≤ x6_1) = true := decide_eq_true c7
            clear c7
            by_cases c9 : (bt t157 x6_1) ≥ 48
            · rw [if_pos c9] at H
              have c9b0 : decide (48 ≤ (bt t157 x6_1)) = true := decide_eq_true c9
              clear c9
              have H' := Aside0.mk H
              clear H
              have p8 : 0 ≤ (x6_1 : Int) := of_decide_eq_true (by first | (with_reducible assumption) | assumption)
              have q8 : x6_1 < (t157.size : Int) := of_decide_eq_true (by first | (with_reducible assumption) | assumption)
              have hx8 := bt_at t157 x6_1
              replace p8 := eq_true p8
              replace q8 := eq_true q8
              have p10 : 0 ≤ (x6_1 : Int) := of_decide_eq_true (by first | (with_reducible assumption) | assumption)
              have q10 : x6_1 < (t157.size : Int) := of_decide_eq_true (by first | (with_reducible assumption) | assumption)
              have hx10 := bt_at t157 x6_1
              replace p10 := eq_true p10
              replace q10 := eq_true q10
              go_wp2
              go_roundg k1
              case measure => have := HK1.out; omega
              case rel => exact ⟨(decide ((bt t157 x6_1) ≤ 57)), (wrap64 (x6_1 + 1)), (by first | rfl | (simp; done) | (simp [*]; done) | (simp [bne]; done) | (simp [bne, *]; done)), (by first | rfl | (simp; done) | (simp [*]; done) | (simp [bne]; done) | (simp [bne, *]; done)), H', ⟨by have := HK1.out; omega⟩, ⟨by repeat (first | (with_reducible first | exact HB.out | apply below_alloc | apply pw_below_drewN | apply below_drew1) | exact HB.out)⟩⟩
            · rw [if_neg c9] at H
              have c9b0 : decide (48 ≤ (bt t157 x6_1)) = false := decide_eq_false c9
              clear c9
              have H' := Aside0.mk H
              clear H
              have p8 : 0 ≤ (x6_1 : Int) := of_decide_eq_true (by first | (with_reducible assumption) | assumption)
              have q8 : x6_1 < (t157.size : Int) := of_decide_eq_true (by first | (with_reducible assumption) | assumption)
              have hx8 := bt_at t157 x6_1
              replace p8 := eq_true p8
              replace q8 := eq_true q8
              go_wp2
              go_roundg k1
              case measure => have := HK1.out; omega
              case rel => exact ⟨(false), (wrap64 (x6_1 + 1)), (by first | rfl | (simp; done) | (simp [*]; done) | (simp [bne]; done) | (simp [bne, *]; done)), (by first | rfl | (simp; done) | (simp [*]; done) | (simp [bne]; done) | (simp [bne, *]; done)), H', ⟨by have := HK1.out; omega⟩, ⟨by repeat (first | (with_reducible first | exact HB.out | apply below_alloc | apply pw_below_drewN | apply below_drew1) | exact HB.out)⟩⟩
          · rw [if_neg c7] at H
            exact absurd H (by simp)
        · replace c6 := Bool.eq_false_iff.mpr c6
          subst c6
          have H1 : (abatislaw17_PreflightAges.l0 k1 t156 t157 false (wrap64 (x6_1 + 1))) = some r := by rw [if_neg (show ¬ (false = true) by decide)] at H; exact H
          clear H
          have H := H1
          clear H1
          have H' := Aside0.mk H
          clear H
          go_wp2
          go_roundg k1
          case measure => have := HK1.out; omega
          case rel => exact ⟨(false), (wrap64 (x6_1 + 1)), (by first | rfl | (simp; done) | (simp [*]; done) | (simp [bne]; done) | (simp [bne, *]; done)), (by first | rfl | (simp; done) | (simp [*]; done) | (simp [bne]; done) | (simp [bne, *]; done)), H', ⟨by have := HK1.out; omega⟩, ⟨by repeat (first | (with_reducible first | exact HB.out | apply below_alloc | apply pw_below_drewN | apply below_drew1) | exact HB.out)⟩⟩
      · rw [if_neg c5] at H
        have c5b0 : decide (x6_1 < (t157.size : Int)) = false := decide_eq_false c5
        clear c5
        replace H := Option.bind_eq_some_iff.mp H
        obtain ⟨t158, A110, H⟩ := H
        replace H : ((preflight_Age.f (([(⟨(⟨#[97, 99, 99, 101, 115, 115, 45, 99, 111, 110, 116, 114, 111, 108, 45, 77, 65, 88, 45, 97, 103, 101]⟩ : ByteArray), t158⟩ : S25)] : List (S25)))).bind fun t162 => ((preflight_Age.f (([(⟨(⟨#[65, 99, 99, 101, 115, 115, 45, 67, 111, 110, 116, 114, 111, 108, 45, 77, 97, 120, 45, 65, 103, 101]⟩ : ByteArray), t157⟩ : S25)] : List (S25)))).bind fun t166 => ((abatisref01_Decimal.f k1 t156).bind fun t167 => (if 1 + t167.size ≤ 9223372036854775807 then ((preflight_Age.f (([(⟨(⟨#[65, 99, 99, 101, 115, 115, 45, 67, 111, 110, 116, 114, 111, 108, 45, 77, 97, 120, 45, 65, 103, 101]⟩ : ByteArray), (⟨#[45]⟩ : ByteArray) ++ t167⟩ : S25)] : List (S25)))).bind fun t171 => (if t162 = (mn t156 7200) then (if x5_1 = true then (if t166 ≥ 0 then (if t166 ≤ 7200 then (if t171 = 5 then ((abatislaw17_lives.f).bind fun t172 => (some t172)) else (none)) else (none)) else (none)) else (if t166 = 5 then (if t166 ≥ 0 then (if t166 ≤ 7200 then (if t171 = 5 then ((abatislaw17_lives.f).bind fun t173 => (some t173)) else (none)) else (none)) else (none)) else (none))) else (none))) else (none))))) = some r := H
        have A11 := Aside0.mk A110
        clear A110
        obtain ⟨y159, hy159⟩ : ∃ y_ : List (S25), y_ = (([(⟨(⟨#[97, 99, 99, 101, 115, 115, 45, 99, 111, 110, 116, 114, 111, 108, 45, 77, 65, 88, 45, 97, 103, 101]⟩ : ByteArray), t158⟩ : S25)] : List (S25))) := ⟨_, rfl⟩
        replace H : ((preflight_Age.f y159).bind fun t162 => ((preflight_Age.f (([(⟨(⟨#[65, 99, 99, 101, 115, 115, 45, 67, 111, 110, 116, 114, 111, 108, 45, 77, 97, 120, 45, 65, 103, 101]⟩ : ByteArray), t157⟩ : S25)] : List (S25)))).bind fun t166 => ((abatisref01_Decimal.f k1 t156).bind fun t167 => (if 1 + t167.size ≤ 9223372036854775807 then ((preflight_Age.f (([(⟨(⟨#[65, 99, 99, 101, 115, 115, 45, 67, 111, 110, 116, 114, 111, 108, 45, 77, 97, 120, 45, 65, 103, 101]⟩ : ByteArray), (⟨#[45]⟩ : ByteArray) ++ t167⟩ : S25)] : List (S25)))).bind fun t171 => (if t162 = (mn t156 7200) then (if x5_1 = true then (if t166 ≥ 0 then (if t166 ≤ 7200 then (if t171 = 5 then ((abatislaw17_lives.f).bind fun t172 => (some t172)) else (none)) else (none)) else (none)) else (if t166 = 5 then (if t166 ≥ 0 then (if t166 ≤ 7200 then (if t171 = 5 then ((abatislaw17_lives.f).bind fun t173 => (some t173)) else (none)) else (none)) else (none)) else (none))) else (none))) else (none))))) = some r := by first | (rw [hy159]; with_reducible exact H) | (have H2_ := (Option.bind_some _ _).symm.trans H; rw [hy159]; with_reducible exact H2_) | (have H2_ := (Option.bind_some _ _).symm.trans H; with_reducible exact H2_) | with_reducible exact H | (rw [hy159]; exact H) | exact H
        have Ny159 := Aside0.mk hy159
        clear hy159
        replace H := Option.bind_eq_some_iff.mp H
        obtain ⟨t162, A120, H⟩ := H
        replace H : ((preflight_Age.f (([(⟨(⟨#[65, 99, 99, 101, 115, 115, 45, 67, 111, 110, 116, 114, 111, 108, 45, 77, 97, 120, 45, 65, 103, 101]⟩ : ByteArray), t157⟩ : S25)] : List (S25)))).bind fun t166 => ((abatisref01_Decimal.f k1 t156).bind fun t167 => (if 1 + t167.size ≤ 9223372036854775807 then ((preflight_Age.f (([(⟨(⟨#[65, 99, 99, 101, 115, 115, 45, 67, 111, 110, 116, 114, 111, 108, 45, 77, 97, 120, 45, 65, 103, 101]⟩ : ByteArray), (⟨#[45]⟩ : ByteArray) ++ t167⟩ : S25)] : List (S25)))).bind fun t171 => (if t162 = (mn t156 7200) then (if x5_1 = true then (if t166 ≥ 0 then (if t166 ≤ 7200 then (if t171 = 5 then ((abatislaw17_lives.f).bind fun t172 => (some t172)) else (none)) else (none)) else (none)) else (if t166 = 5 then (if t166 ≥ 0 then (if t166 ≤ 7200 then (if t171 = 5 then ((abatislaw17_lives.f).bind fun t173 => (some t173)) else (none)) else (none)) else (none)) else (none))) else (none))) else (none)))) = some r := H
        have A12 := Aside0.mk A120
        clear A120
        obtain ⟨y163, hy163⟩ : ∃ y_ : List (S25), y_ = (([(⟨(⟨#[65, 99, 99, 101, 115, 115, 45, 67, 111, 110, 116, 114, 111, 108, 45, 77, 97, 120, 45, 65, 103, 101]⟩ : ByteArray), t157⟩ : S25)] : List (S25))) := ⟨_, rfl⟩
        replace H : ((preflight_Age.f y163).bind fun t166 => ((abatisref01_Decimal.f k1 t156).bind fun t167 => (if 1 + t167.size ≤ 9223372036854775807 then ((preflight_Age.f (([(⟨(⟨#[65, 99, 99, 101, 115, 115, 45, 67, 111, 110, 116, 114, 111, 108, 45, 77, 97, 120, 45, 65, 103, 101]⟩ : ByteArray), (⟨#[45]⟩ : ByteArray) ++ t167⟩ : S25)] : List (S25)))).bind fun t171 => (if t162 = (mn t156 7200) then (if x5_1 = true then (if t166 ≥ 0 then (if t166 ≤ 7200 then (if t171 = 5 then ((abatislaw17_lives.f).bind fun t172 => (some t172)) else (none)) else (none)) else (none)) else (if t166 = 5 then (if t166 ≥ 0 then (if t166 ≤ 7200 then (if t171 = 5 then ((abatislaw17_lives.f).bind fun t173 => (some t173)) else (none)) else (none)) else (none)) else (none))) else (none))) else (none)))) = some r := by first | (rw [hy163]; with_reducible exact H) | (have H2_ := (Option.bind_some _ _).symm.trans H; rw [hy163]; with_reducible exact H2_) | (have H2_ := (Option.bind_some _ _).symm.trans H; with_reducible exact H2_) | with_reducible exact H | (rw [hy163]; exact H) | exact H
        have Ny163 := Aside0.mk hy163
        clear hy163
        replace H := Option.bind_eq_some_iff.mp H
        obtain ⟨t166, A130, H⟩ := H
        replace H : ((abatisref01_Decimal.f k1 t156).bind fun t167 => (if 1 + t167.size ≤ 9223372036854775807 then ((preflight_Age.f (([(⟨(⟨#[65, 99, 99, 101, 115, 115, 45, 67, 111, 110, 116, 114, 111, 108, 45, 77, 97, 120, 45, 65, 103, 101]⟩ : ByteArray), (⟨#[45]⟩ : ByteArray) ++ t167⟩ : S25)] : List (S25)))).bind fun t171 => (if t162 = (mn t156 7200) then (if x5_1 = true then (if t166 ≥ 0 then (if t166 ≤ 7200 then (if t171 = 5 then ((abatislaw17_lives.f).bind fun t172 => (some t172)) else (none)) else (none)) else (none)) else (if t166 = 5 then (if t166 ≥ 0 then (if t166 ≤ 7200 then (if t171 = 5 then ((abatislaw17_lives.f).bind fun t173 => (some t173)) else (none)) else (none)) else (none)) else (none))) else (none))) else (none))) = some r := H
        have A13 := Aside0.mk A130
        clear A130
        replace H := Option.bind_eq_some_iff.mp H
        obtain ⟨t167, A140, H⟩ := H
        replace H : (if 1 + t167.size ≤ 9223372036854775807 then ((preflight_Age.f (([(⟨(⟨#[65, 99, 99, 101, 115, 115, 45, 67, 111, 110, 116, 114, 111, 108, 45, 77, 97, 120, 45, 65, 103, 101]⟩ : ByteArray), (⟨#[45]⟩ : ByteArray) ++ t167⟩ : S25)] : List (S25)))).bind fun t171 => (if t162 = (mn t156 7200) then (if x5_1 = true then (if t166 ≥ 0 then (if t166 ≤ 7200 then (if t171 = 5 then ((abatislaw17_lives.f).bind fun t172 => (some t172)) else (none)) else (none)) else (none)) else (if t166 = 5 then (if t166 ≥ 0 then (if t166 ≤ 7200 then (if t171 = 5 then ((abatislaw17_lives.f).bind fun t173 => (some t173)) else (none)) else (none)) else (none)) else (none))) else (none))) else (none)) = some r := H
        have A14 := Aside0.mk A140
        clear A140
        by_cases c15 : 1 + t167.size ≤ 9223372036854775807
        · rw [if_pos c15] at H
          have c15b0 := eq_true c15
          have c15b1 : decide (1 + t167.size ≤ 9223372036854775807) = true := decide_eq_true c15
          try have c15b2 : (9223372036854775807 < 1 + t167.size) = False := eq_false (Nat.not_lt.2 c15)
          obtain ⟨y168, hy168⟩ : ∃ y_ : List (S25), y_ = (([(⟨(⟨#[65, 99, 99, 101, 115, 115, 45, 67, 111, 110, 116, 114, 111, 108, 45, 77, 97, 120, 45, 65, 103, 101]⟩ : ByteArray), (⟨#[45]⟩ : ByteArray) ++ t167⟩ : S25)] : List (S25))) := ⟨_, rfl⟩
          replace H : ((preflight_Age.f y168).bind fun t171 => (if t162 = (mn t156 7200) then (if x5_1 = true then (if t166 ≥ 0 then (if t166 ≤ 7200 then (if t171 = 5 then ((abatislaw17_lives.f).bind fun t172 => (some t172)) else (none)) else (none)) else (none)) else (if t166 = 5 then (if t166 ≥ 0 then (if t166 ≤ 7200 then (if t171 = 5 then ((abatislaw17_lives.f).bind fun t173 => (some t173)) else (none)) else (none)) else (none)) else (none))) else (none))) = some r := by first | (rw [hy168]; with_reducible exact H) | (have H2_ := (Option.bind_some _ _).symm.trans H; rw [hy168]; with_reducible exact H2_) | (have H2_ := (Option.bind_some _ _).symm.trans H; with_reducible exact H2_) | with_reducible exact H | (rw [hy168]; exact H) | exact H
          have Ny168 := Aside0.mk hy168
          clear hy168
          replace H := Option.bind_eq_some_iff.mp H
          obtain ⟨t171, A160, H⟩ := H
          replace H : (if t162 = (mn t156 7200) then (if x5_1 = true then (if t166 ≥ 0 then (if t166 ≤ 7200 then (if t171 = 5 then ((abatislaw17_lives.f).bind fun t172 => (some t172)) else (none)) else (none)) else (none)) else (if t166 = 5 then (if t166 ≥ 0 then (if t166 ≤ 7200 then (if t171 = 5 then ((abatislaw17_lives.f).bind fun t173 => (some t173)) else (none)) else (none)) else (none)) else (none))) else (none)) = some r := H
          have A16 := Aside0.mk A160
          clear A160
          obtain ⟨ji17, hji17⟩ : ∃ j_ : Int, (mn t156 7200) = j_ := ⟨_, rfl⟩
          replace H : (if t162 = (ji17) then (if x5_1 = true then (if t166 ≥ 0 then (if t166 ≤ 7200 then (if t171 = 5 then ((abatislaw17_lives.f).bind fun t172 => (some t172)) else (none)) else (none)) else (none)) else (if t166 = 5 then (if t166 ≥ 0 then (if t166 ≤ 7200 then (if t171 = 5 then ((abatislaw17_lives.f).bind fun t173 => (some t173)) else (none)) else (none)) else (none)) else (none))) else (none)) = some r := by first | (rw [hji17] at H; exact H) | (simp only [hji17] at H ⊢; exact H)
          (try rw [hji17] at A11)
          (try rw [hji17] at A12)
          (try rw [hji17] at A13)
          (try rw [hji17] at A14)
          (try rw [hji17] at A16)
          have hji17_ : (if 7200 < t156 then 7200 else t156) = ji17 := hji17
          by_cases c18 : t162 = (ji17)
          · rw [if_pos c18] at H
            have c18b0 : (t162 == (ji17)) = true := beq_iff_eq.mpr c18
            have c18b1 : (t162 != (ji17)) = false := bne_eq_false_iff_eq.mpr c18
            clear c18
            by_cases c19 : x5_1 = true
            · subst c19
              have H1 : (if t166 ≥ 0 then (if t166 ≤ 7200 then (if t171 = 5 then ((abatislaw17_lives.f).bind fun t172 => (some t172)) else (none)) else (none)) else (none)) = some r := by rw [if_pos rfl] at H; exact H
              clear H
              have H := H1
              clear H1
              by_cases c20 : t166 ≥ 0
              · rw [if_pos c20] at H
                have c20b0 : decide (0 ≤ t166) = true := decide_eq_true c20
                clear c20
                by_cases c21 : t166 ≤ 7200
                · rw [if_pos c21] at H
                  have c21b0 : decide (t166 ≤ 7200) = true := decide_eq_true c21
                  clear c21
                  by_cases c22 : t171 = 5
                  · rw [if_pos c22] at H
                    have c22b0 : (t171 == 5) = true := beq_iff_eq.mpr c22
                    have c22b1 : (t171 != 5) = false := bne_eq_false_iff_eq.mpr c22
                    clear c22
                    replace H := Option.bind_eq_some_iff.mp H
                    obtain ⟨t172, A230, H⟩ := H
                    replace H : (some t172) = some r := H
                    have A23 := Aside0.mk A230
                    clear A230
                    obtain rfl := Option.some.inj H
                    go_wp2_with (first | ((with_reducible refine gate_callee (f := 30) rfl ?_); refine goesL_ (some 36) rfl rfl Tryd.func30 (by kernel_rfl) rfl #[.int .i64 t156] rfl (by (try simp only [List.map_toArray, List.map_cons, List.map_nil]); first | done | rfl | (simp only [List.length_drop, List.length_take]; rfl)) ?_; (with_reducible refine (abatisref01_Decimal.calls k1 t156 t158 _ A11.out).mono ?_); rintro e w24 ⟨rfl, hb⟩; refine ⟨_, rfl, ?_⟩; have n0_ := Aside0.mk (below_step (by repeat (first | (with_reducible first | exact HB.out | apply below_alloc | apply pw_below_drewN | apply below_drew1) | exact HB.out)) hb); clear HB; have HB := n0_; clear n0_; (try clear hb); (try clear hb2); (try clear hk); (try clear hi)) | ((with_reducible refine gate_dst (N := 38) rfl ?_); refine Kd.R_lit k25 _ 25 ?hg (N := 38) ?hd (xs := ([(⟨(⟨#[97, 99, 99, 101, 115, 115, 45, 99, 111, 110, 116, 114, 111, 108, 45, 77, 65, 88, 45, 97, 103, 101]⟩ : ByteArray), t158⟩ : S25)] : List (S25))) (inner := [.string (⟨#[97, 99, 99, 101, 115, 115, 45, 99, 111, 110, 116, 114, 111, 108, 45, 77, 65, 88, 45, 97, 103, 101]⟩ : ByteArray), .string t158]) (ok := fun _ => True) (okp := fun _ => True) ?hr ?hp (fun _ hk => hk) trivial (Below.refl _ _) (Nat.le_refl _) (by simp) ?_; (case hd => rfl); (case hg => rfl); (case hr => first | (go_simp; done) | (go_simp; rfl)); (case hp => exact (Reps.c2 (show Kd.M k25 _ _ _ (⟨(⟨#[97, 99, 99, 101, 115, 115, 45, 99, 111, 110, 116, 114, 111, 108, 45, 77, 65, 88, 45, 97, 103, 101]⟩ : ByteArray), t158⟩ : S25) [.string (⟨#[97, 99, 99, 101, 115, 115, 45, 99, 111, 110, 116, 114, 111, 108, 45, 77, 65, 88, 45, 97, 103, 101]⟩ : ByteArray), .string t158] from (k25_mkM _ _ _ (⟨(⟨#[97, 99, 99, 101, 115, 115, 45, 99, 111, 110, 116, 114, 111, 108, 45, 77, 65, 88, 45, 97, 103, 101]⟩ : ByteArray), t158⟩ : S25) )) (Reps.none _ _))); intro v160 w25 ho26 hb hg_ hnew_; clear hg_ hnew_; (first | rw [← Ny159.out] at ho26 | (simp only [Int.reduceToNat] at ho26; rw [← Ny159.out] at ho26)); have n0_ := Aside0.mk (Kd.R_lower ho26 (below_size (by repeat (first | (with_reducible first | exact HB.out | apply below_alloc | apply pw_below_drewN | apply below_drew1) | exact HB.out)))); have n1_ := Aside0.mk (below_step (by repeat (first | (with_reducible first | exact HB.out | apply below_alloc | apply pw_below_drewN | apply below_drew1) | exact HB.out)) hb); clear HB; have HO161 := n0_; have HB := n1_; clear n0_ n1_; clear hb ho26; obtain ⟨Ao27, co27, eo27⟩ := Kd.R_slice HO161.out; subst eo27) | ((with_reducible refine gate_callee (f := 29) rfl ?_); refine goesL_ (some 39) rfl rfl Tryd.func29 (by kernel_rfl) rfl #[.slice Ao27 y159.length co27] rfl (by (try simp only [List.map_toArray, List.map_cons, List.map_nil]); first | done | rfl | (simp only [List.length_drop, List.length_take]; rfl)) ?_; (with_reducible refine (preflight_Age.calls _ _ y159 t162 _ ?side1 ?side2 A12.out).mono ?_); (case side1 => repeat (first | exact (Kd.R_reads' HO161.out).2.2 | (with_reducible refine Kd.C_alloc ?_ _) | (with_reducible refine Kd.C_drewN ?_ _) | (with_reducible refine Kd.C_drew ?_))); (case side2 => exact (Kd.R_reads' HO161.out).2.1); rintro e w28 ⟨rfl, hb⟩; refine ⟨_, rfl, ?_⟩; have n0_ := Aside0.mk (Kd.R_below (by (with_reducible repeat (first | apply Kd.R_alloc | apply Kd.R_drewN | apply Kd.R_drew)); exact HO161.out) hb); have n1_ := Aside0.mk (below_step (by repeat (first | (with_reducible first | exact HB.out | apply below_alloc | apply pw_below_drewN | apply below_drew1) | exact HB.out)) hb); clear HO161; clear HB; have HO161 := n0_; have HB := n1_; clear n0_ n1_; (try clear hb); (try clear hb2); (try clear hk); (try clear hi)) | ((with_reducible refine gate_dst (N := 42) rfl ?_); refine Kd.R_lit k25 _ 25 ?hg (N := 42) ?hd (xs := ([(⟨(⟨#[65, 99, 99, 101, 115, 115, 45, 67, 111, 110, 116, 114, 111, 108, 45, 77, 97, 120, 45, 65, 103, 101]⟩ : ByteArray), t157⟩ : S25)] : List (S25))) (inner := [.string (⟨#[65, 99, 99, 101, 115, 115, 45, 67, 111, 110, 116, 114, 111, 108, 45, 77, 97, 120, 45, 65, 103, 101]⟩ : ByteArray), .string t157]) (ok := fun _ => True) (okp := fun _ => True) ?hr ?hp (fun _ hk => hk) trivial (Below.refl _ _) (Nat.le_refl _) (by simp) ?_; (case hd => rfl); (case hg => rfl); (case hr => first | (go_simp; done) | (go_simp; rfl)); (case hp => exact (Reps.c2 (show Kd.M k25 _ _ _ (⟨(⟨#[65, 99, 99, 101, 115, 115, 45, 67, 111, 110, 116, 114, 111, 108, 45, 77, 97, 120, 45, 65, 103, 101]⟩ : ByteArray), t157⟩ : S25) [.string (⟨#[65, 99, 99, 101, 115, 115, 45, 67, 111, 110, 116, 114, 111, 108, 45, 77, 97, 120, 45, 65, 103, 101]⟩ : ByteArray), .string t157] from (k25_mkM _ _ _ (⟨(⟨#[65, 99, 99, 101, 115, 115, 45, 67, 111, 110, 116, 114, 111, 108, 45, 77, 97, 120, 45, 65, 103, 101]⟩ : ByteArray), t157⟩ : S25) )) (Reps.none _ _))); intro v164 w29 ho30 hb hg_ hnew_; clear hg_ hnew_; (first | rw [← Ny163.out] at ho30 | (simp only [Int.reduceToNat] at ho30; rw [← Ny163.out] at ho30)); have n0_ := Aside0.mk (Kd.R_elder' (by (with_reducible repeat (first | apply Kd.R_alloc | apply Kd.R_drewN | apply Kd.R_drew)); exact HO161.out) (Kd.R_base ho30) hb); have n1_ := Aside0.mk (Kd.R_lower (Kd.R_new' ho30 (Kd.R_lt (by (with_reducible repeat (first | apply Kd.R_alloc | apply Kd.R_drewN | apply Kd.R_drew)); exact HO161.out))) (below_size (by repeat (first | (with_reducible first | exact HB.out | apply below_alloc | apply pw_below_drewN | apply below_drew1) | exact HB.out)))); have n2_ := Aside0.mk (below_step (by repeat (first | (with_reducible first | exact HB.out | apply below_alloc | apply pw_below_drewN | apply below_drew1) | exact HB.out)) hb); clear HO161; clear HB; have HO161 := n0_; have HO165 := n1_; have HB := n2_; clear n0_ n1_ n2_; clear hb ho30; obtain ⟨Ao31, co31, eo31⟩ := Kd.R_slice HO165.out; subst eo31) | ((with_reducible refine gate_callee (f := 29) rfl ?_); refine goesL_ (some 43) rfl rfl Tryd.func29 (by kernel_rfl) rfl #[.slice Ao31 y163.length co31] rfl (by (try simp only [List.map_toArray, List.map_cons, List.map_nil]); first | done | rfl | (simp only [List.length_drop, List.length_take]; rfl)) ?_; (with_reducible refine (preflight_Age.calls _ _ y163 t166 _ ?side1 ?side2 A13.out).mono ?_); (case side1 => repeat (first | exact (Kd.R_reads' HO165.out).2.2 | (with_reducible refine Kd.C_alloc ?_ _) | (with_reducible refine Kd.C_drewN ?_ _) | (with_reducible refine Kd.C_drew ?_))); (case side2 => exact (Kd.R_reads' HO165.out).2.1); rintro e w32 ⟨rfl, hb⟩; refine ⟨_, rfl, ?_⟩; have n0_ := Aside0.mk (Kd.R_below (by (with_reducible repeat (first | apply Kd.R_alloc | apply Kd.R_drewN | apply Kd.R_drew)); exact HO161.out) hb); have n1_ := Aside0.mk (Kd.R_below (by (with_reducible repeat (first | apply Kd.R_alloc | apply Kd.R_drewN | apply Kd.R_drew)); exact HO165.out) hb); have n2_ := Aside0.mk (below_step (by repeat (first | (with_reducible first | exact HB.out | apply below_alloc | apply pw_below_drewN | apply below_drew1) | exact HB.out)) hb); clear HO161; clear HO165; clear HB; have HO161 := n0_; have HO165 := n1_; have HB := n2_; clear n0_ n1_ n2_; (try clear hb); (try clear hb2); (try clear hk); (try clear hi)) | ((with_reducible refine gate_callee (f := 30) rfl ?_); refine goesL_ (some 45) rfl rfl Tryd.func30 (by kernel_rfl) rfl #[.int .i64 t156] rfl (by (try simp only [List.map_toArray, List.map_cons, List.map_nil]); first | done | rfl | (simp only [List.length_drop, List.length_take]; rfl)) ?_; (with_reducible refine (abatisref01_Decimal.calls k1 t156 t167 _ A14.out).mono ?_); rintro e w33 ⟨rfl, hb⟩; refine ⟨_, rfl, ?_⟩; have n0_ := Aside0.mk (Kd.R_below (by (with_reducible repeat (first | apply Kd.R_alloc | apply Kd.R_drewN | apply Kd.R_drew)); exact HO161.out) hb); have n1_ := Aside0.mk (Kd.R_below (by (with_reducible repeat (first | apply Kd.R_alloc | apply Kd.R_drewN | apply Kd.R_drew)); exact HO165.out) hb); have n2_ := Aside0.mk (below_step (by repeat (first | (with_reducible first | exact HB.out | apply below_alloc | apply pw_below_drewN | apply below_drew1) | exact HB.out)) hb); clear HO161; clear HO165; clear HB; have HO161 := n0_; have HO165 := n1_; have HB := n2_; clear n0_ n1_ n2_; (try clear hb); (try clear hb2); (try clear hk); (try clear hi)) | ((with_reducible refine gate_dst (N := 48) rfl ?_); refine Kd.R_lit k25 _ 25 ?hg (N := 48) ?hd (xs := ([(⟨(⟨#[65, 99, 99, 101, 115, 115, 45, 67, 111, 110, 116, 114, 111, 108, 45, 77, 97, 120, 45, 65, 103, 101]⟩ : ByteArray), (⟨#[45]⟩ : ByteArray) ++ t167⟩ : S25)] : List (S25))) (inner := [.string (⟨#[65, 99, 99, 101, 115, 115, 45, 67, 111, 110, 116, 114, 111, 108, 45, 77, 97, 120, 45, 65, 103, 101]⟩ : ByteArray), .string ((⟨#[45]⟩ : ByteArray) ++ t167)]) (ok := fun _ => True) (okp := fun _ => True) ?hr ?hp (fun _ hk => hk) trivial (Below.refl _ _) (Nat.le_refl _) (by simp) ?_; (case hd => rfl); (case hg => rfl); (case hr => first | (go_simp; done) | (go_simp; rfl)); (case hp => exact (Reps.c2 (show Kd.M k25 _ _ _ (⟨(⟨#[65, 99, 99, 101, 115, 115, 45, 67, 111, 110, 116, 114, 111, 108, 45, 77, 97, 120, 45, 65, 103, 101]⟩ : ByteArray), (⟨#[45]⟩ : ByteArray) ++ t167⟩ : S25) [.string (⟨#[65, 99, 99, 101, 115, 115, 45, 67, 111, 110, 116, 114, 111, 108, 45, 77, 97, 120, 45, 65, 103, 101]⟩ : ByteArray), .string ((⟨#[45]⟩ : ByteArray) ++ t167)] from (k25_mkM _ _ _ (⟨(⟨#[65, 99, 99, 101, 115, 115, 45, 67, 111, 110, 116, 114, 111, 108, 45, 77, 97, 120, 45, 65, 103, 101]⟩ : ByteArray), (⟨#[45]⟩ : ByteArray) ++ t167⟩ : S25) )) (Reps.none _ _))); intro v169 w34 ho35 hb hg_ hnew_; clear hg_ hnew_; (first | rw [← Ny168.out] at ho35 | (simp only [Int.reduceToNat] at ho35; rw [← Ny168.out] at ho35)); have n0_ := Aside0.mk (Kd.R_elder' (by (with_reducible repeat (first | apply Kd.R_alloc | apply Kd.R_drewN | apply Kd.R_drew)); exact HO161.out) (Kd.R_base ho35) hb); have n1_ := Aside0.mk (Kd.R_elder' (by (with_reducible repeat (first | apply Kd.R_alloc | apply Kd.R_drewN | apply Kd.R_drew)); exact HO165.out) (Kd.R_base ho35) hb); have n2_ := Aside0.mk (Kd.R_lower (Kd.R_new' (Kd.R_new' ho35 (Kd.R_lt (by (with_reducible repeat (first | apply Kd.R_alloc | apply Kd.R_drewN | apply Kd.R_drew)); exact HO161.out))) (Kd.R_lt (by (with_reducible repeat (first | apply Kd.R_alloc | apply Kd.R_drewN | apply Kd.R_drew)); exact HO165.out))) (below_size (by repeat (first | (with_reducible first | exact HB.out | apply below_alloc | apply pw_below_drewN | apply below_drew1) | exact HB.out)))); have n3_ := Aside0.mk (below_step (by repeat (first | (with_reducible first | exact HB.out | apply below_alloc | apply pw_below_drewN | apply below_drew1) | exact HB.out)) hb); clear HO161; clear HO165; clear HB; have HO161 := n0_; have HO165 := n1_; have HO170 := n2_; have HB := n3_; clear n0_ n1_ n2_ n3_; clear hb ho35; obtain ⟨Ao36, co36, eo36⟩ := Kd.R_slice HO170.out; subst eo36) | ((with_reducible refine gate_callee (f := 29) rfl ?_); refine goesL_ (some 49) rfl rfl Tryd.func29 (by kernel_rfl) rfl #[.slice Ao36 y168.length co36] rfl (by (try simp only [List.map_toArray, List.map_cons, List.map_nil]); first | done | rfl | (simp only [List.length_drop, List.length_take]; rfl)) ?_; (with_reducible refine (preflight_Age.calls _ _ y168 t171 _ ?side1 ?side2 A16.out).mono ?_); (case side1 => repeat (first | exact (Kd.R_reads' HO170.out).2.2 | (with_reducible refine Kd.C_alloc ?_ _) | (with_reducible refine Kd.C_drewN ?_ _) | (with_reducible refine Kd.C_drew ?_))); (case side2 => exact (Kd.R_reads' HO170.out).2.1); rintro e w37 ⟨rfl, hb⟩; refine ⟨_, rfl, ?_⟩; have n0_ := Aside0.mk (Kd.R_below (by (with_reducible repeat (first | apply Kd.R_alloc | apply Kd.R_drewN | apply Kd.R_drew)); exact HO161.out) hb); have n1_ := Aside0.mk (Kd.R_below (by (with_reducible repeat (first | apply Kd.R_alloc | apply Kd.R_drewN | apply Kd.R_drew)); exact HO165.out) hb); have n2_ := Aside0.mk (Kd.R_below (by (with_reducible repeat (first | apply Kd.R_alloc | apply Kd.R_drewN | apply Kd.R_drew)); exact HO170.out) hb); have n3_ := Aside0.mk (below_step (by repeat (first | (with_reducible first | exact HB.out | apply below_alloc | apply pw_below_drewN | apply below_drew1) | exact HB.out)) hb); clear HO161; clear HO165; clear HO170; clear HB; have HO161 := n0_; have HO165 := n1_; have HO170 := n2_; have HB := n3_; clear n0_ n1_ n2_ n3_; (try clear hb); (try clear hb2); (try clear hk); (try clear hi)) | (go_at_call 27; (with_reducible refine (abatislaw17_lives.calls  t172 _ (maxis_below HMX.out (by repeat (first | (with_reducible first | exact HB.out | apply below_alloc | apply pw_below_drewN | apply below_drew1) | exact HB.out))) A23.out).mono ?_); rintro e w38 ⟨rfl, hb⟩; have n0_ := Aside0.mk (Kd.R_below (by (with_reducible repeat (first | apply Kd.R_alloc | apply Kd.R_drewN | apply Kd.R_drew)); exact HO161.out) hb); have n1_ := Aside0.mk (Kd.R_below (by (with_reducible repeat (first | apply Kd.R_alloc | apply Kd.R_drewN | apply Kd.R_drew)); exact HO165.out) hb); have n2_ := Aside0.mk (Kd.R_below (by (with_reducible repeat (first | apply Kd.R_alloc | apply Kd.R_drewN | apply Kd.R_drew)); exact HO170.out) hb); have n3_ := Aside0.mk (below_step (by repeat (first | (with_reducible first | exact HB.out | apply below_alloc | apply pw_below_drewN | apply below_drew1) | exact HB.out)) hb); clear HO161; clear HO165; clear HO170; clear HB; have HO161 := n0_; have HO165 := n1_; have HO170 := n2_; have HB := n3_; clear n0_ n1_ n2_ n3_; (try clear hb); (try clear hb2); (try clear hk); (try clear hi)))
                    go_ret
                    exact ⟨by first | rfl | (simp [errW_none, errW_some] <;> rfl) | (simp only [← hji17]; first | rfl | (simp [errW_none, errW_some] <;> rfl)) | (simp [*, errW_none, errW_some] <;> rfl), by repeat (first | (with_reducible first | exact HB.out | apply below_alloc | apply pw_below_drewN | apply below_drew1) | exact HB.out)⟩
                  · rw [if_neg c22] at H
                    exact absurd H (by simp)
                · rw [if_neg c21] at H
                  exact absurd H (by simp)
              · rw [if_neg c20] at H
                exact absurd H (by simp)
            · replace c19 := Bool.eq_false_iff.mpr c19
              subst c19
              have H1 : (if t166 = 5 then (if t166 ≥ 0 then (if t166 ≤ 7200 then (if t171 = 5 then ((abatislaw17_lives.f).bind fun t173 => (some t173)) else (none)) else (none)) else (none)) else (none)) = some r := by rw [if_neg (show ¬ (false = true) by decide)] at H; exact H
              clear H
              have H := H1
              clear H1
              by_cases c39 : t166 = 5
              · rw [if_pos c39] at H
                have c39b0 : (t166 == 5) = true := beq_iff_eq.mpr c39
                have c39b1 : (t166 != 5) = false := bne_eq_false_iff_eq.mpr c39
                clear c39
                by_cases c40 : t166 ≥ 0
                · rw [if_pos c40] at H
                  have c40b0 : decide (0 ≤ t166) = true := decide_eq_true c40
                  clear c40
                  by_cases c41 : t166 ≤ 7200
                  · rw [if_pos c41] at H
                    have c41b0 : decide (t166 ≤ 7200) = true := decide_eq_true c41
                    clear c41
                    by_cases c42 : t171 = 5
                    · rw [if_pos c42] at H
                      have c42b0 : (t171 == 5) = true := beq_iff_eq.mpr c42
                      have c42b1 : (t171 != 5) = false := bne_eq_false_iff_eq.mpr c42
                      clear c42
                      replace H := Option.bind_eq_some_iff.mp H
                      obtain ⟨t173, A430, H⟩ := H
                      replace H : (some t173) = some r := H
                      have A43 := Aside0.mk A430
                      clear A430
                      obtain rfl := Option.some.inj H
                      go_wp2_with (first | ((with_reducible refine gate_callee (f := 30) rfl ?_); refine goesL_ (some 36) rfl rfl Tryd.func30 (by kernel_rfl) rfl #[.int .i64 t156] rfl (by (try simp only [List.map_toArray, List.map_cons, List.map_nil]); first | done | rfl | (simp only [List.length_drop, List.length_take]; rfl)) ?_; (with_reducible refine (abatisref01_Decimal.calls k1 t156 t158 _ A11.out).mono ?_); rintro e w44 ⟨rfl, hb⟩; refine ⟨_, rfl, ?_⟩; have n0_ := Aside0.mk (below_step (by repeat (first | (with_reducible first | exact HB.out | apply below_alloc | apply pw_below_drewN | apply below_drew1) | exact HB.out)) hb); clear HB; have HB := n0_; clear n0_; (try clear hb); (try clear hb2); (try clear hk); (try clear hi)) | ((with_reducible refine gate_dst (N := 38) rfl ?_); refine Kd.R_lit k25 _ 25 ?hg (N := 38) ?hd (xs := ([(⟨(⟨#[97, 99, 99, 101, 115, 115, 45, 99, 111, 110, 116, 114, 111, 108, 45, 77, 65, 88, 45, 97, 103, 101]⟩ : ByteArray), t158⟩ : S25)] : List (S25))) (inner := [.string (⟨#[97, 99, 99, 101, 115, 115, 45, 99, 111, 110, 116, 114, 111, 108, 45, 77, 65, 88, 45, 97, 103, 101]⟩ : ByteArray), .string t158]) (ok := fun _ => True) (okp := fun _ => True) ?hr ?hp (fun _ hk => hk) trivial (Below.refl _ _) (Nat.le_refl _) (by simp) ?_; (case hd => rfl); (case hg => rfl); (case hr => first | (go_simp; done) | (go_simp; rfl)); (case hp => exact (Reps.c2 (show Kd.M k25 _ _ _ (⟨(⟨#[97, 99, 99, 101, 115, 115, 45, 99, 111, 110, 116, 114, 111, 108, 45, 77, 65, 88, 45, 97, 103, 101]⟩ : ByteArray), t158⟩ : S25) [.string (⟨#[97, 99, 99, 101, 115, 115, 45, 99, 111, 110, 116, 114, 111, 108, 45, 77, 65, 88, 45, 97, 103, 101]⟩ : ByteArray), .string t158] from (k25_mkM _ _ _ (⟨(⟨#[97, 99, 99, 101, 115, 115, 45, 99, 111, 110, 116, 114, 111, 108, 45, 77, 65, 88, 45, 97, 103, 101]⟩ : ByteArray), t158⟩ : S25) )) (Reps.none _ _))); intro v160 w45 ho46 hb hg_ hnew_; clear hg_ hnew_; (first | rw [← Ny159.out] at ho46 | (simp only [Int.reduceToNat] at ho46; rw [← Ny159.out] at ho46)); have n0_ := Aside0.mk (Kd.R_lower ho46 (below_size (by repeat (first | (with_reducible first | exact HB.out | apply below_alloc | apply pw_below_drewN | apply below_drew1) | exact HB.out)))); have n1_ := Aside0.mk (below_step (by repeat (first | (with_reducible first | exact HB.out | apply below_alloc | apply pw_below_drewN | apply below_drew1) | exact HB.out)) hb); clear HB; have HO161 := n0_; have HB := n1_; clear n0_ n1_; clear hb ho46; obtain ⟨Ao47, co47, eo47⟩ := Kd.R_slice HO161.out; subst eo47) | ((with_reducible refine gate_callee (f := 29) rfl ?_); refine goesL_ (some 39) rfl rfl Tryd.func29 (by kernel_rfl) rfl #[.slice Ao47 y159.length co47] rfl (by (try simp only [List.map_toArray, List.map_cons, List.map_nil]); first | done | rfl | (simp only [List.length_drop, List.length_take]; rfl)) ?_; (with_reducible refine (preflight_Age.calls _ _ y159 t162 _ ?side1 ?side2 A12.out).mono ?_); (case side1 => repeat (first | exact (Kd.R_reads' HO161.out).2.2 | (with_reducible refine Kd.C_alloc ?_ _) | (with_reducible refine Kd.C_drewN ?_ _) | (with_reducible refine Kd.C_drew ?_))); (case side2 => exact (Kd.R_reads' HO161.out).2.1); rintro e w48 ⟨rfl, hb⟩; refine ⟨_, rfl, ?_⟩; have n0_ := Aside0.mk (Kd.R_below (by (with_reducible repeat (first | apply Kd.R_alloc | apply Kd.R_drewN | apply Kd.R_drew)); exact HO161.out) hb); have n1_ := Aside0.mk (below_step (by repeat (first | (with_reducible first | exact HB.out | apply below_alloc | apply pw_below_drewN | apply below_drew1) | exact HB.out)) hb); clear HO161; clear HB; have HO161 := n0_; have HB := n1_; clear n0_ n1_; (try clear hb); (try clear hb2); (try clear hk); (try clear hi)) | ((with_reducible refine gate_dst (N := 42) rfl ?_); refine Kd.R_lit k25 _ 25 ?hg (N := 42) ?hd (xs := ([(⟨(⟨#[65, 99, 99, 101, 115, 115, 45, 67, 111, 110, 116, 114, 111, 108, 45, 77, 97, 120, 45, 65, 103, 101]⟩ : ByteArray), t157⟩ : S25)] : List (S25))) (inner := [.string (⟨#[65, 99, 99, 101, 115, 115, 45, 67, 111, 110, 116, 114, 111, 108, 45, 77, 97, 120, 45, 65, 103, 101]⟩ : ByteArray), .string t157]) (ok := fun _ => True) (okp := fun _ => True) ?hr ?hp (fun _ hk => hk) trivial (Below.refl _ _) (Nat.le_refl _) (by simp) ?_; (case hd => rfl); (case hg => rfl); (case hr => first | (go_simp; done) | (go_simp; rfl)); (case hp => exact (Reps.c2 (show Kd.M k25 _ _ _ (⟨(⟨#[65, 99, 99, 101, 115, 115, 45, 67, 111, 110, 116, 114, 111, 108, 45, 77, 97, 120, 45, 65, 103, 101]⟩ : ByteArray), t157⟩ : S25) [.string (⟨#[65, 99, 99, 101, 115, 115, 45, 67, 111, 110, 116, 114, 111, 108, 45, 77, 97, 120, 45, 65, 103, 101]⟩ : ByteArray), .string t157] from (k25_mkM _ _ _ (⟨(⟨#[65, 99, 99, 101, 115, 115, 45, 67, 111, 110, 116, 114, 111, 108, 45, 77, 97, 120, 45, 65, 103, 101]⟩ : ByteArray), t157⟩ : S25) )) (Reps.none _ _))); intro v164 w49 ho50 hb hg_ hnew_; clear hg_ hnew_; (first | rw [← Ny163.out] at ho50 | (simp only [Int.reduceToNat] at ho50; rw [← Ny163.out] at ho50)); have n0_ := Aside0.mk (Kd.R_elder' (by (with_reducible repeat (first | apply Kd.R_alloc | apply Kd.R_drewN | apply Kd.R_drew)); exact HO161.out) (Kd.R_base ho50) hb); have n1_ := Aside0.mk (Kd.R_lower (Kd.R_new' ho50 (Kd.R_lt (by (with_reducible repeat (first | apply Kd.R_alloc | apply Kd.R_drewN | apply Kd.R_drew)); exact HO161.out))) (below_size (by repeat (first | (with_reducible first | exact HB.out | apply below_alloc | apply pw_below_drewN | apply below_drew1) | exact HB.out)))); have n2_ := Aside0.mk (below_step (by repeat (first | (with_reducible first | exact HB.out | apply below_alloc | apply pw_below_drewN | apply below_drew1) | exact HB.out)) hb); clear HO161; clear HB; have HO161 := n0_; have HO165 := n1_; have HB := n2_; clear n0_ n1_ n2_; clear hb ho50; obtain ⟨Ao51, co51, eo51⟩ := Kd.R_slice HO165.out; subst eo51) | ((with_reducible refine gate_callee (f := 29) rfl ?_); refine goesL_ (some 43) rfl rfl Tryd.func29 (by kernel_rfl) rfl #[.slice Ao51 y163.length co51] rfl (by (try simp only [List.map_toArray, List.map_cons, List.map_nil]); first | done | rfl | (simp only [List.length_drop, List.length_take]; rfl)) ?_; (with_reducible refine (preflight_Age.calls _ _ y163 t166 _ ?side1 ?side2 A13.out).mono ?_); (case side1 => repeat (first | exact (Kd.R_reads' HO165.out).2.2 | (with_reducible refine Kd.C_alloc ?_ _) | (with_reducible refine Kd.C_drewN ?_ _) | (with_reducible refine Kd.C_drew ?_))); (case side2 => exact (Kd.R_reads' HO165.out).2.1); rintro e w52 ⟨rfl, hb⟩; refine ⟨_, rfl, ?_⟩; have n0_ := Aside0.mk (Kd.R_below (by (with_reducible repeat (first | apply Kd.R_alloc | apply Kd.R_drewN | apply Kd.R_drew)); exact HO161.out) hb); have n1_ := Aside0.mk (Kd.R_below (by (with_reducible repeat (first | apply Kd.R_alloc | apply Kd.R_drewN | apply Kd.R_drew)); exact HO165.out) hb); have n2_ := Aside0.mk (below_step (by repeat (first | (with_reducible first | exact HB.out | apply below_alloc | apply pw_below_drewN | apply below_drew1) | exact HB.out)) hb); clear HO161; clear HO165; clear HB; have HO161 := n0_; have HO165 := n1_; have HB := n2_; clear n0_ n1_ n2_; (try clear hb); (try clear hb2); (try clear hk); (try clear hi)) | ((with_reducible refine gate_callee (f := 30) rfl ?_); refine goesL_ (some 45) rfl rfl Tryd.func30 (by kernel_rfl) rfl #[.int .i64 t156] rfl (by (try simp only [List.map_toArray, List.map_cons, List.map_nil]); first | done | rfl | (simp only [List.length_drop, List.length_take]; rfl)) ?_; (with_reducible refine (abatisref01_Decimal.calls k1 t156 t167 _ A14.out).mono ?_); rintro e w53 ⟨rfl, hb⟩; refine ⟨_, rfl, ?_⟩; have n0_ := Aside0.mk (Kd.R_below (by (with_reducible repeat (first | apply Kd.R_alloc | apply Kd.R_drewN | apply Kd.R_drew)); exact HO161.out) hb); have n1_ := Aside0.mk (Kd.R_below (by (with_reducible repeat (first | apply Kd.R_alloc | apply Kd.R_drewN | apply Kd.R_drew)); exact HO165.out) hb); have n2_ := Aside0.mk (below_step (by repeat (first | (with_reducible first | exact HB.out | apply below_alloc | apply pw_below_drewN | apply below_drew1) | exact HB.out)) hb); clear HO161; clear HO165; clear HB; have HO161 := n0_; have HO165 := n1_; have HB := n2_; clear n0_ n1_ n2_; (try clear hb); (try clear hb2); (try clear hk); (try clear hi)) | ((with_reducible refine gate_dst (N := 48) rfl ?_); refine Kd.R_lit k25 _ 25 ?hg (N := 48) ?hd (xs := ([(⟨(⟨#[65, 99, 99, 101, 115, 115, 45, 67, 111, 110, 116, 114, 111, 108, 45, 77, 97, 120, 45, 65, 103, 101]⟩ : ByteArray), (⟨#[45]⟩ : ByteArray) ++ t167⟩ : S25)] : List (S25))) (inner := [.string (⟨#[65, 99, 99, 101, 115, 115, 45, 67, 111, 110, 116, 114, 111, 108, 45, 77, 97, 120, 45, 65, 103, 101]⟩ : ByteArray), .string ((⟨#[45]⟩ : ByteArray) ++ t167)]) (ok := fun _ => True) (okp := fun _ => True) ?hr ?hp (fun _ hk => hk) trivial (Below.refl _ _) (Nat.le_refl _) (by simp) ?_; (case hd => rfl); (case hg => rfl); (case hr => first | (go_simp; done) | (go_simp; rfl)); (case hp => exact (Reps.c2 (show Kd.M k25 _ _ _ (⟨(⟨#[65, 99, 99, 101, 115, 115, 45, 67, 111, 110, 116, 114, 111, 108, 45, 77, 97, 120, 45, 65, 103, 101]⟩ : ByteArray), (⟨#[45]⟩ : ByteArray) ++ t167⟩ : S25) [.string (⟨#[65, 99, 99, 101, 115, 115, 45, 67, 111, 110, 116, 114, 111, 108, 45, 77, 97, 120, 45, 65, 103, 101]⟩ : ByteArray), .string ((⟨#[45]⟩ : ByteArray) ++ t167)] from (k25_mkM _ _ _ (⟨(⟨#[65, 99, 99, 101, 115, 115, 45, 67, 111, 110, 116, 114, 111, 108, 45, 77, 97, 120, 45, 65, 103, 101]⟩ : ByteArray), (⟨#[45]⟩ : ByteArray) ++ t167⟩ : S25) )) (Reps.none _ _))); intro v169 w54 ho55 hb hg_ hnew_; clear hg_ hnew_; (first | rw [← Ny168.out] at ho55 | (simp only [Int.reduceToNat] at ho55; rw [← Ny168.out] at ho55)); have n0_ := Aside0.mk (Kd.R_elder' (by (with_reducible repeat (first | apply Kd.R_alloc | apply Kd.R_drewN | apply Kd.R_drew)); exact HO161.out) (Kd.R_base ho55) hb); have n1_ := Aside0.mk (Kd.R_elder' (by (with_reducible repeat (first | apply Kd.R_alloc | apply Kd.R_drewN | apply Kd.R_drew)); exact HO165.out) (Kd.R_base ho55) hb); have n2_ := Aside0.mk (Kd.R_lower (Kd.R_new' (Kd.R_new' ho55 (Kd.R_lt (by (with_reducible repeat (first | apply Kd.R_alloc | apply Kd.R_drewN | apply Kd.R_drew)); exact HO161.out))) (Kd.R_lt (by (with_reducible repeat (first | apply Kd.R_alloc | apply Kd.R_drewN | apply Kd.R_drew)); exact HO165.out))) (below_size (by repeat (first | (with_reducible first | exact HB.out | apply below_alloc | apply pw_below_drewN | apply below_drew1) | exact HB.out)))); have n3_ := Aside0.mk (below_step (by repeat (first | (with_reducible first | exact HB.out | apply below_alloc | apply pw_below_drewN | apply below_drew1) | exact HB.out)) hb); clear HO161; clear HO165; clear HB; have HO161 := n0_; have HO165 := n1_; have HO170 := n2_; have HB := n3_; clear n0_ n1_ n2_ n3_; clear hb ho55; obtain ⟨Ao56, co56, eo56⟩ := Kd.R_slice HO170.out; subst eo56) | ((with_reducible refine gate_callee (f := 29) rfl ?_); refine goesL_ (some 49) rfl rfl Tryd.func29 (by kernel_rfl) rfl #[.slice Ao56 y168.length co56] rfl (by (try simp only [List.map_toArray, List.map_cons, List.map_nil]); first | done | rfl | (simp only [List.length_drop, List.length_take]; rfl)) ?_; (with_reducible refine (preflight_Age.calls _ _ y168 t171 _ ?side1 ?side2 A16.out).mono ?_); (case side1 => repeat (first | exact (Kd.R_reads' HO170.out).2.2 | (with_reducible refine Kd.C_alloc ?_ _) | (with_reducible refine Kd.C_drewN ?_ _) | (with_reducible refine Kd.C_drew ?_))); (case side2 => exact (Kd.R_reads' HO170.out).2.1); rintro e w57 ⟨rfl, hb⟩; refine ⟨_, rfl, ?_⟩; have n0_ := Aside0.mk (Kd.R_below (by (with_reducible repeat (first | apply Kd.R_alloc | apply Kd.R_drewN | apply Kd.R_drew)); exact HO161.out) hb); have n1_ := Aside0.mk (Kd.R_below (by (with_reducible repeat (first | apply Kd.R_alloc | apply Kd.R_drewN | apply Kd.R_drew)); exact HO165.out) hb); have n2_ := Aside0.mk (Kd.R_below (by (with_reducible repeat (first | apply Kd.R_alloc | apply Kd.R_drewN | apply Kd.R_drew)); exact HO170.out) hb); have n3_ := Aside0.mk (below_step (by repeat (first | (with_reducible first | exact HB.out | apply below_alloc | apply pw_below_drewN | apply below_drew1) | exact HB.out)) hb); clear HO161; clear HO165; clear HO170; clear HB; have HO161 := n0_; have HO165 := n1_; have HO170 := n2_; have HB := n3_; clear n0_ n1_ n2_ n3_; (try clear hb); (try clear hb2); (try clear hk); (try clear hi)) | (go_at_call 27; (with_reducible refine (abatislaw17_lives.calls  t173 _ (maxis_below HMX.out (by repeat (first | (with_reducible first | exact HB.out | apply below_alloc | apply pw_below_drewN | apply below_drew1) | exact HB.out))) A43.out).mono ?_); rintro e w58 ⟨rfl, hb⟩; have n0_ := Aside0.mk (Kd.R_below (by (with_reducible repeat (first | apply Kd.R_alloc | apply Kd.R_drewN | apply Kd.R_drew)); exact HO161.out) hb); have n1_ := Aside0.mk (Kd.R_below (by (with_reducible repeat (first | apply Kd.R_alloc | apply Kd.R_drewN | apply Kd.R_drew)); exact HO165.out) hb); have n2_ := Aside0.mk (Kd.R_below (by (with_reducible repeat (first | apply Kd.R_alloc | apply Kd.R_drewN | apply Kd.R_drew)); exact HO170.out) hb); have n3_ := Aside0.mk (below_step (by repeat (first | (with_reducible first | exact HB.out | apply below_alloc | apply pw_below_drewN | apply below_drew1) | exact HB.out)) hb); clear HO161; clear HO165; clear HO170; clear HB; have HO161 := n0_; have HO165 := n1_; have HO170 := n2_; have HB := n3_; clear n0_ n1_ n2_ n3_; (try clear hb); (try clear hb2); (try clear hk); (try clear hi)))
                      go_ret
                      exact ⟨by first | rfl | (simp [errW_none, errW_some] <;> rfl) | (simp only [← hji17]; first | rfl | (simp [errW_none, errW_some] <;> rfl)) | (simp [*, errW_none, errW_some] <;> rfl), by repeat (first | (with_reducible first | exact HB.out | apply below_alloc | apply pw_below_drewN | apply below_drew1) | exact HB.out)⟩
                    · rw [if_neg c42] at H
                      exact absurd H (by simp)
                  · rw [if_neg c41] at H
                    exact absurd H (by simp)
                · rw [if_neg c40] at H
                  exact absurd H (by simp)
              · rw [if_neg c39] at H
                exact absurd H (by simp)
          · rw [if_neg c18] at H
            exact absurd H (by simp)
        · rw [if_neg c15] at H
          exact absurd H (by simp)

/-- THE ONE PURE STATEMENT of abatislaw17_PreflightAges: yours. -/
def abatislaw17_PreflightAges.Pure : Prop := ∀ (a0 : Int) (a1 : ByteArray), (Lit.int .i64 a0).wf = true → a1.size ≤ 140737488351232 → ∃ k, abatislaw17_PreflightAges.f k a0 a1 = some true
theorem abatislaw17_PreflightAges.walk (P : abatislaw17_PreflightAges.Pure) (a0 : Int) (a1 : ByteArray) (w : World) (hmx : MaxIs w) (w0 : (Lit.int .i64 a0).wf = true) (w1 : a1.size ≤ 140737488351232) :
    Calls Tryd.prog 6 #[.int .i64 a0, .string a1] w fun e w' => e = .returned (.bool true) ∧ Below w.heap.size w w' := by
  obtain ⟨k, h⟩ := P a0 a1 w0 w1
  refine (abatislaw17_PreflightAges.calls k a0 a1 true w hmx h).mono ?_
  rintro e w' ⟨rfl, hd⟩
  exact ⟨rfl, hd⟩
-- EXT abatis/abatislaw17.PreflightAges {"rounds": 1, "making": 1, "need": 1}

end Go.Proofs.YthjhbhgfckaklaaDoor.P
