/-
  The contracts of strings.Index, Split, Cut, CutPrefix and of head.shown, in the form that the print takes; the fact on internal/bytealg.MaxLen that three of them ask.
-/
import Derived.Test.YthjhbhgfckaklaaDoorBase
import Derived.Test.YthjhbhgfckaklaaDoorShelf
import Derived.Test.YthjhbhgfckaklaaDoorShelfI
import Derived.Shelf.Abstract
namespace Go.Proofs.YthjhbhgfckaklaaDoor.P
open Go.RowKit Go.Proofs.YthjhbhgfckaklaaDoorW.PrintWords Go.Proofs.YthjhbhgfckaklaaDoorW.PrintLast Go.Proofs.YthjhbhgfckaklaaDoorW.PrintMore
set_option linter.unusedVariables false
set_option linter.unusedSimpArgs false

/-- internal/bytealg.MaxLen holds some int. -/
def MaxIs (w : World) : Prop := ∃ m, w.cell? ⟨0, 0, none⟩ = some (.int .i64 m)
theorem maxis_below {w w' : World} (h : MaxIs w) (hb : Below w.heap.size w w') : MaxIs w' := by
  obtain ⟨m, hm⟩ := h
  exact ⟨m, (hb.cell (World.block_lt_of_cell? w _ hm)).trans hm⟩

theorem own_made (w : World) (e : TypeId) (r : List ByteArray) (h : r.length ≤ 4294967282) : (w.alloc (.cells (r.map Value.string).toArray e)).ownsRow w.heap.size e 1 (.slice (some ⟨w.heap.size, 0, none⟩) r.length r.length) r.length (r.map Value.string) :=
  ⟨by simp, .inr ⟨w.heap.size, r.length, (r.map Value.string).toArray, rfl, Nat.le_refl _, by show (w.heap.push _)[w.heap.size]? = _; rw [Array.getElem?_push, if_pos rfl], Nat.le_refl _, Nat.le_trans h (by decide), by simp, by simp [List.take_of_length_le]⟩⟩

-- EXT strings.Index {"rounds": 0, "making": 1, "need": 1}
def strings_Index.f (a0 a1 : ByteArray) : Option Int := if a0.size < 4294967281 then some (Lib.index a0.data.toList a1.data.toList) else none
theorem strings_Index.calls (a0 a1 : ByteArray) (r : Int) (w : World) (hmx : MaxIs w) (h : strings_Index.f a0 a1 = some r) :
    Calls Tryd.prog 63 #[.string a0, .string a1] w fun e w' => e = .returned (.int .i64 r) ∧ Below w.heap.size w w' := by
  unfold strings_Index.f at h
  split at h
  case isFalse => exact absurd h (by simp)
  rename_i hs
  obtain ⟨m, hm⟩ := hmx
  refine (Tryd.strings_Index a0 a1 m w hs hm).mono fun e w' ⟨he, hw⟩ => ?_
  subst hw
  exact ⟨by rw [he, Option.some.inj h], Below.refl _ _⟩

-- EXT strings.Split {"rounds": 0, "making": 1, "need": 1}
def strings_Split.f (a0 a1 : ByteArray) : Option (List ByteArray) := if a0.size < 4294967281 ∧ 1 ≤ a1.size then some (Lib.splitB a1 0 (Lib.countB a0 a1) a0) else none
theorem strings_Split.calls (a0 a1 : ByteArray) (r : List ByteArray) (w : World) (hmx : MaxIs w) (h : strings_Split.f a0 a1 = some r) :
    Calls Tryd.prog 64 #[.string a0, .string a1] w fun e w' => ∃ v0_ : Value, e = .returned (v0_) ∧ Kd.R Kd.string 9 w' w.heap.size (fun _ => True) v0_ r ∧ Below w.heap.size w w' := by
  unfold strings_Split.f at h
  split at h
  case isFalse => exact absurd h (by simp)
  rename_i hs
  obtain ⟨m, hm⟩ := hmx
  have hr := Option.some.inj h
  have hlen : r.length = Lib.countB a0 a1 + 1 := by rw [← hr]; exact Lib.splitB_all a1 hs.2 0 _ a0 rfl
  have hle := Lib.countB_le a1 hs.2 a0.size a0 (Nat.le_refl _)
  refine (Tryd.strings_Split a0 a1 m w hs.1 hm hs.2).mono fun e w' ⟨he, hw⟩ => ?_
  rw [hr] at hw
  rw [← hlen] at he
  subst hw
  have ho : (w.alloc (.cells (r.map Value.string).toArray 9)).ownsRow w.heap.size 9 1 (.slice (some ⟨w.heap.size, 0, none⟩) r.length r.length) r.length (r.map Value.string) :=
    own_made w 9 r (by omega)
  exact ⟨_, he, Kd.R_of_own ho (fun _ _ => trivial), (Below.refl _ w).alloc (Nat.le_refl _) _⟩

-- EXT strings.Cut {"rounds": 0, "making": 1, "need": 1}
def strings_Cut.f (a0 a1 : ByteArray) : Option (ByteArray × ByteArray × Bool) :=
  if a0.size < 4294967281 then some ((⟨(Lib.cut a0.data.toList a1.data.toList).1.toArray⟩ : ByteArray), (⟨(Lib.cut a0.data.toList a1.data.toList).2.1.toArray⟩ : ByteArray), (Lib.cut a0.data.toList a1.data.toList).2.2) else none
theorem strings_Cut.calls (a0 a1 : ByteArray) (r1 r2 : ByteArray) (r3 : Bool) (w : World) (hmx : MaxIs w) (h : strings_Cut.f a0 a1 = some (r1, r2, r3)) :
    Calls Tryd.prog 57 #[.string a0, .string a1] w fun e w' => e = .returned (.tuple #[.string r1, .string r2, .bool r3]) ∧ Below w.heap.size w w' := by
  unfold strings_Cut.f at h
  split at h
  case isFalse => exact absurd h (by simp)
  rename_i hs
  obtain ⟨m, hm⟩ := hmx
  simp only [Option.some.injEq, Prod.mk.injEq] at h
  obtain ⟨h1, h2, h3⟩ := h
  refine (Tryd.strings_Cut a0 a1 m w hs hm).mono fun e w' ⟨he, n, hw⟩ => ?_
  subst hw
  exact ⟨by rw [he, h1, h2, h3], pw_below_drewN (Below.refl _ _) n⟩

-- EXT strings.CutPrefix {"rounds": 0, "making": 1}
def strings_CutPrefix.f (a0 a1 : ByteArray) : Option (ByteArray × Bool) := some ((⟨(Lib.trimPrefix a0.data.toList a1.data.toList).toArray⟩ : ByteArray), Lib.hasPrefix a0.data.toList a1.data.toList)
theorem strings_CutPrefix.calls (a0 a1 : ByteArray) (r1 : ByteArray) (r2 : Bool) (w : World) (h : strings_CutPrefix.f a0 a1 = some (r1, r2)) :
    Calls Tryd.prog 97 #[.string a0, .string a1] w fun e w' => e = .returned (.tuple #[.string r1, .bool r2]) ∧ Below w.heap.size w w' := by
  unfold strings_CutPrefix.f at h
  simp only [Option.some.injEq, Prod.mk.injEq] at h
  obtain ⟨h1, h2⟩ := h
  refine (Tryd.strings_CutPrefix a0 a1 w).mono fun e w' ⟨he, hw⟩ => ?_
  subst hw
  exact ⟨by rw [he, h1, h2], Below.refl _ _⟩

/-! ### head.shown -/
def oddN (n : Nat) : Bool := (decide (n < 32) || decide (126 < n)) && decide (n ≠ 9)
set_option maxRecDepth 100000 in
theorem shown_pred (w : World) : PredAtRunes Tryd.prog 119 #[] oddN w := by
  intro W x hx hb
  show Calls Tryd.prog 119 #[.int .i32 (x : Int)] W _
  have fin : ∀ b : Bool, oddN x = b → oddN x = b := fun _ h => h
  by_cases h1 : (x : Int) < 32
  · have e1 : decide ((x : Int) < 32) = true := decide_eq_true h1
    by_cases h3 : (x : Int) = 9
    · have e3 : ((x : Int) == 9) = true := beq_iff_eq.mpr h3
      have e4 : ((x : Int) != 9) = false := bne_eq_false_iff_eq.mpr h3
      have HP := Aside0.mk (show oddN x = false by unfold oddN; rw [decide_eq_false (p := x ≠ 9) (by omega)]; simp)
      clear h1 h3 fin
      go_enter Tryd.func119, Tryd.ntmps119
      go_wp2
      go_ret
      exact ⟨by rw [HP.out]; rfl, 0, rfl⟩
    · have e3 : ((x : Int) == 9) = false := beq_eq_false_iff_ne.mpr h3
      have e4 : ((x : Int) != 9) = true := bne_iff_ne.mpr h3
      have HP := Aside0.mk (show oddN x = true by unfold oddN; rw [decide_eq_true (p := x ≠ 9) (by omega), decide_eq_true (p := x < 32) (by omega)]; simp)
      clear h1 h3 fin
      go_enter Tryd.func119, Tryd.ntmps119
      go_wp2
      go_ret
      exact ⟨by rw [HP.out]; rfl, 0, rfl⟩
  · have e1 : decide ((x : Int) < 32) = false := decide_eq_false h1
    have h3 : ¬ (x : Int) = 9 := by omega
    have e3 : ((x : Int) == 9) = false := beq_eq_false_iff_ne.mpr h3
    have e4 : ((x : Int) != 9) = true := bne_iff_ne.mpr h3
    by_cases h2 : (x : Int) > 126
    · have e2 : decide ((x : Int) > 126) = true := decide_eq_true h2
      have e5 : decide (126 < (x : Int)) = true := decide_eq_true h2
      have HP := Aside0.mk (show oddN x = true by unfold oddN; rw [decide_eq_true (p := x ≠ 9) (by omega), decide_eq_true (p := 126 < x) (by omega)]; simp)
      clear h1 h2 h3 fin
      go_enter Tryd.func119, Tryd.ntmps119
      go_wp2
      go_ret
      exact ⟨by rw [HP.out]; rfl, 0, rfl⟩
    · have e2 : decide ((x : Int) > 126) = false := decide_eq_false h2
      have e5 : decide (126 < (x : Int)) = false := decide_eq_false h2
      have HP := Aside0.mk (show oddN x = false by unfold oddN; rw [decide_eq_false (p := 126 < x) (by omega), decide_eq_false (p := x < 32) (by omega)]; simp)
      clear h1 h2 h3 fin
      go_enter Tryd.func119, Tryd.ntmps119
      go_wp2
      go_ret
      exact ⟨by rw [HP.out]; rfl, 0, rfl⟩
-- EXT abatis/head.shown {"rounds": 0, "making": 1}
def head_shown.f (a0 : ByteArray) : Option Bool := some (!decide (0 ≤ Lib.idxFunc oddN true a0))
set_option maxRecDepth 100000 in
theorem head_shown.calls (a0 : ByteArray) (r : Bool) (w : World) (h : head_shown.f a0 = some r) :
    Calls Tryd.prog 98 #[.string a0] w fun e w' => e = .returned (.bool r) ∧ Below w.heap.size w w' := by
  have H := Aside0.mk (Option.some.inj h)
  clear h
  have eg : ∀ args w, (callFunc 119 args).run Tryd.prog w = .ok (.enter 119 args) w := enters_of Tryd.func119 (by kernel_rfl) rfl
  go_enter Tryd.func98, Tryd.ntmps98
  go_wp2_with (go_at_call 118; refine (Tryd.strings_ContainsFunc 119 #[] eg oddN a0 _ (shown_pred _)).mono ?_; rintro e w' ⟨rfl, hB⟩)
  go_ret
  exact ⟨by rw [← H.out]; rfl, hB⟩
end Go.Proofs.YthjhbhgfckaklaaDoor.P
