/-
  space.Name, space.Parse.
-/
import Derived.Test.YtjilnigmbnmlfaaDoorM13
import Derived.Test.YtjilnigmbnmlfaaDoorTextB
import Derived.Test.YtjilnigmbnmlfaaDoorPB1
namespace Go.Proofs.YtjilnigmbnmlfaaDoor.P
open Go.RowKit Go.Proofs.YtjilnigmbnmlfaaDoorW.PrintWords Go.Proofs.YtjilnigmbnmlfaaDoorW.PrintLast Go.Proofs.YtjilnigmbnmlfaaDoorW.PrintMore
set_option linter.unusedVariables false
set_option linter.unusedSimpArgs false
def nm0 : ByteArray := ⟨#[108, 111, 111, 112, 98, 97, 99, 107]⟩
def nm1 : ByteArray := ⟨#[112, 114, 105, 118, 97, 116, 101]⟩
def nm2 : ByteArray := ⟨#[112, 117, 98, 108, 105, 99]⟩
def nmS (a : Int) : ByteArray := if a = 0 then nm0 else if a = 1 then nm1 else if a = 2 then nm2 else ⟨#[]⟩
theorem names_run (w : World) : Calls Tryd.prog 40 #[] w fun e w' => e = .returned (.agg #[.string nm0, .string nm1, .string nm2]) ∧ Below w.heap.size w w' :=
  (space_names.calls nm0 nm1 nm2 w rfl).mono fun e w' h => h
def space_Name.f (a0 : Int) : Option ByteArray := some (nmS a0)
set_option maxHeartbeats 2000000 in
set_option maxRecDepth 100000 in
theorem space_Name.calls (a0 : Int) (r : ByteArray) (w : World) (h : space_Name.f a0 = some r) : Calls Tryd.prog 25 #[.int .i64 a0] w fun e w' => e = .returned (.string r) ∧ Below w.heap.size w w' := by
  obtain rfl : nmS a0 = r := Option.some.inj h
  have HB := Aside0.mk (Below.refl w.heap.size w)
  have x0 : ∀ w : World, (Instr.index 76 (.agg #[.string nm0, .string nm1, .string nm2]) (.int .i64 0)).run Tryd.prog w = .ok (.string nm0) w := fun _ => by kernel_rfl
  have x1 : ∀ w : World, (Instr.index 76 (.agg #[.string nm0, .string nm1, .string nm2]) (.int .i64 1)).run Tryd.prog w = .ok (.string nm1) w := fun _ => by kernel_rfl
  have x2 : ∀ w : World, (Instr.index 76 (.agg #[.string nm0, .string nm1, .string nm2]) (.int .i64 2)).run Tryd.prog w = .ok (.string nm2) w := fun _ => by kernel_rfl
  have HI := Aside0.mk (space_is_run a0)
  by_cases h3 : a0 = 0 ∨ a0 = 1 ∨ a0 = 2
  · rcases h3 with rfl | rfl | rfl
    all_goals
      replace HI := Aside0.mk (show ∀ w, Calls Tryd.prog 35 #[.int .i64 _] w fun e w' => e = .returned (.bool true) ∧ Below w.heap.size w w' from HI.out)
      go_enter Tryd.func25, Tryd.ntmps25
      go_wp2_with (first
        | (go_at_call 35; refine (HI.out _).mono ?_; rintro e w2 ⟨rfl, hb⟩; replace HB := Aside0.mk (below_step HB.out hb); clear hb)
        | (go_at_call 40; refine (names_run _).mono ?_; rintro e w3 ⟨rfl, hb⟩; replace HB := Aside0.mk (below_step HB.out hb); clear hb))
      go_ret
      exact ⟨rfl, HB.out⟩
  · have hn : nmS a0 = ⟨#[]⟩ := by unfold nmS; rw [if_neg (by omega), if_neg (by omega), if_neg (by omega)]
    have hi : inS a0 = false := by
      unfold inS
      by_cases h0 : 0 ≤ a0
      · rw [decide_eq_false (show ¬ a0 < 3 by omega), Bool.and_false]
      · rw [decide_eq_false h0, Bool.false_and]
    rw [hi] at HI
    rw [hn]
    go_enter Tryd.func25, Tryd.ntmps25
    go_wp2_with (first
      | (go_at_call 35; refine (HI.out _).mono ?_; rintro e w2 ⟨rfl, hb⟩; replace HB := Aside0.mk (below_step HB.out hb); clear hb))
    go_ret
    exact ⟨rfl, HB.out⟩
def space_Parse.f (s : ByteArray) : Option (Int × Bool) :=
  (text_Like.f nm0 s).bind fun b0 => if b0 = true then some (0, true) else (text_Like.f nm1 s).bind fun b1 => if b1 = true then some (1, true) else (text_Like.f nm2 s).bind fun b2 => if b2 = true then some (2, true) else some (0, false)
theorem like_run (a s : ByteArray) (b : Bool) (h : text_Like.f a s = some b) (w : World) : Calls Tryd.prog 41 #[.string a, .string s] w fun e w' => e = .returned (.bool b) ∧ Below w.heap.size w w' := text_Like.calls a s b w h
set_option maxHeartbeats 4000000 in
set_option maxRecDepth 100000 in
theorem parse_walk (s : ByteArray) (b0 b1 b2 : Bool) (h0 : text_Like.f nm0 s = some b0) (h1 : b0 = false → text_Like.f nm1 s = some b1) (h2 : b0 = false → b1 = false → text_Like.f nm2 s = some b2) (w : World) :
    Calls Tryd.prog 23 #[.string s] w fun e w' => e = .returned (if b0 = true then .tuple #[.int .i64 0, .bool true] else if b1 = true then .tuple #[.int .i64 1, .bool true] else if b2 = true then .tuple #[.int .i64 2, .bool true] else .tuple #[.int .i64 0, .bool false]) ∧ Below w.heap.size w w' := by
  have HB := Aside0.mk (Below.refl w.heap.size w)
  have H0 := Aside0.mk h0
  have H1 := Aside0.mk h1
  have H2 := Aside0.mk h2
  have x0 : ∀ w : World, (Instr.index 76 (.agg #[.string nm0, .string nm1, .string nm2]) (.int .i64 0)).run Tryd.prog w = .ok (.string nm0) w := fun _ => by kernel_rfl
  have x1 : ∀ w : World, (Instr.index 76 (.agg #[.string nm0, .string nm1, .string nm2]) (.int .i64 1)).run Tryd.prog w = .ok (.string nm1) w := fun _ => by kernel_rfl
  have x2 : ∀ w : World, (Instr.index 76 (.agg #[.string nm0, .string nm1, .string nm2]) (.int .i64 2)).run Tryd.prog w = .ok (.string nm2) w := fun _ => by kernel_rfl
  clear h0 h1 h2
  go_enter Tryd.func23, Tryd.ntmps23
  go_wp2_with (first
    | (go_at_call 40; refine (names_run _).mono ?_; rintro e w3 ⟨rfl, hb⟩; replace HB := Aside0.mk (below_step HB.out hb); clear hb))
  go_loopw [7] (fun v7 wr => ∃ i : Nat, v7 = .int .i64 (i : Int) ∧ Aside0 (i ≤ 3) ∧ Aside0 (1 ≤ i → b0 = false) ∧ Aside0 (2 ≤ i → b1 = false) ∧ Aside0 (3 ≤ i → b2 = false) ∧ Aside0 (Below w.heap.size w wr)) (fun v7 _ => 3 - (intOf v7).toNat)
  case atStart => exact ⟨0, rfl, ⟨by omega⟩, ⟨fun h => by omega⟩, ⟨fun h => by omega⟩, ⟨fun h => by omega⟩, HB⟩
  case round =>
    clear HB
    obtain ⟨i, rfl, HI, F0, F1, F2, HB⟩ := hrel
    have hi4 : i = 0 ∨ i = 1 ∨ i = 2 ∨ i = 3 := by have := HI.out; omega
    rcases hi4 with rfl | rfl | rfl | rfl
    · cases b0
      · go_wp2_with (first | (go_at_call 41; refine (like_run nm0 s false H0.out _).mono ?_; rintro e w4 ⟨rfl, hb⟩; replace HB := Aside0.mk (below_step HB.out hb); clear hb))
        go_roundw
        case rel => exact ⟨1, rfl, ⟨by decide⟩, ⟨fun _ => by first | rfl | trivial⟩, ⟨fun h => by omega⟩, ⟨fun h => by omega⟩, HB⟩
        case measure => decide
      · go_wp2_with (first | (go_at_call 41; refine (like_run nm0 s true H0.out _).mono ?_; rintro e w4 ⟨rfl, hb⟩; replace HB := Aside0.mk (below_step HB.out hb); clear hb))
        go_ret2
        exact ⟨rfl, HB.out⟩
    · obtain rfl := F0.out (by omega)
      cases b1
      · go_wp2_with (first | (go_at_call 41; refine (like_run nm1 s false (H1.out rfl) _).mono ?_; rintro e w4 ⟨rfl, hb⟩; replace HB := Aside0.mk (below_step HB.out hb); clear hb))
        go_roundw
        case rel => exact ⟨2, rfl, ⟨by decide⟩, ⟨fun _ => by first | rfl | trivial⟩, ⟨fun _ => by first | rfl | trivial⟩, ⟨fun h => by omega⟩, HB⟩
        case measure => decide
      · go_wp2_with (first | (go_at_call 41; refine (like_run nm1 s true (H1.out rfl) _).mono ?_; rintro e w4 ⟨rfl, hb⟩; replace HB := Aside0.mk (below_step HB.out hb); clear hb))
        go_ret2
        exact ⟨rfl, HB.out⟩
    · obtain rfl := F0.out (by omega)
      obtain rfl := F1.out (by omega)
      cases b2
      · go_wp2_with (first | (go_at_call 41; refine (like_run nm2 s false (H2.out rfl rfl) _).mono ?_; rintro e w4 ⟨rfl, hb⟩; replace HB := Aside0.mk (below_step HB.out hb); clear hb))
        go_roundw
        case rel => exact ⟨3, rfl, ⟨by decide⟩, ⟨fun _ => by first | rfl | trivial⟩, ⟨fun _ => by first | rfl | trivial⟩, ⟨fun _ => by first | rfl | trivial⟩, HB⟩
        case measure => decide
      · go_wp2_with (first | (go_at_call 41; refine (like_run nm2 s true (H2.out rfl rfl) _).mono ?_; rintro e w4 ⟨rfl, hb⟩; replace HB := Aside0.mk (below_step HB.out hb); clear hb))
        go_ret2
        exact ⟨rfl, HB.out⟩
    · obtain rfl := F0.out (by omega)
      obtain rfl := F1.out (by omega)
      obtain rfl := F2.out (by omega)
      go_wp2
      go_ret2
      exact ⟨rfl, HB.out⟩
theorem space_Parse.calls (a0 : ByteArray) (r1 : Int) (r2 : Bool) (w : World) (h : space_Parse.f a0 = some (r1, r2)) : Calls Tryd.prog 23 #[.string a0] w fun e w' => e = .returned (.tuple #[.int .i64 r1, .bool r2]) ∧ Below w.heap.size w w' := by
  unfold space_Parse.f at h
  cases e0 : text_Like.f nm0 a0 with
  | none => rw [e0] at h; cases h
  | some b0 =>
    rw [e0] at h
    cases b0 with
    | true =>
      cases h
      exact parse_walk a0 true true true e0 (fun h => by cases h) (fun h => by cases h) w
    | false =>
      cases e1 : text_Like.f nm1 a0 with
      | none => rw [e1] at h; cases h
      | some b1 =>
        rw [e1] at h
        cases b1 with
        | true =>
          cases h
          exact parse_walk a0 false true true e0 (fun _ => e1) (fun _ h => by cases h) w
        | false =>
          cases e2 : text_Like.f nm2 a0 with
          | none => rw [e2] at h; cases h
          | some b2 =>
            rw [e2] at h
            cases b2 with
            | true =>
              cases h
              exact parse_walk a0 false false true e0 (fun _ => e1) (fun _ _ => e2) w
            | false =>
              cases h
              exact parse_walk a0 false false false e0 (fun _ => e1) (fun _ _ => e2) w
end Go.Proofs.YtjilnigmbnmlfaaDoor.P
