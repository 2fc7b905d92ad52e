/-
  The contract of text.Lower: it returns the text whose great letters are small ones, and nothing that was there has changed.
-/
import Derived.Test.YthdognlkacjkhaaGreatDoorBase
import Derived.Test.YthdognlkacjkhaaGreatDoorM14
namespace Go.Proofs.YthdognlkacjkhaaGreatDoor.P
open Go.RowKit Go.Proofs.YthdognlkacjkhaaGreatDoorW.PrintWords Go.Proofs.YthdognlkacjkhaaGreatDoorW.PrintLast Go.Proofs.YthdognlkacjkhaaGreatDoorW.PrintMore
set_option linter.unusedVariables false
set_option linter.unusedSimpArgs false

def lowB (c : Int) : Int := if 65 ≤ c ∧ c ≤ 90 then c + 32 else c
def text_Lower.f (a0 : ByteArray) : Option ByteArray := if a0.size ≤ 9223372036854775806 then some (strOfNums ((bytesOf a0).map lowB)) else none

/-- Block B holds the text's bytes, the first k of them small. -/
def LowAt (a0 : ByteArray) (B k : Nat) (w : World) : Prop :=
  ∃ cs : Array Value, w.heap[B]? = some (.cells cs 5 (cs.size, cs.size + 1)) ∧ a0.size ≤ cs.size ∧ ∀ j, j < a0.size → cs[j]? = some (.int .u8 (if j < k then lowB (bt a0 j) else bt a0 j))

theorem lowAt_start (w : World) (s : ByteArray) : LowAt s w.heap.size 0 (Lib.bytesWorld w 5 s) := by
  refine ⟨Lib.bytesCells w 5 s, Lib.bytesWorld_at_new w _ s, ?_, fun j hj => ?_⟩
  · simp only [Lib.bytesCells, Array.size_append, Array.size_map]
    have : s.data.size = s.size := rfl
    omega
  · have hj' : j < s.data.size := hj
    have e : bt s (j : Int) = ((s.data[j]'hj').toNat : Int) := by
      unfold bt
      rw [dif_pos (by simpa using hj)]
      rfl
    simp only [Lib.bytesCells]
    rw [Array.getElem?_append_left (by simpa using hj')]
    simp [e]
    exact ⟨_, Array.getElem?_eq_getElem hj', rfl⟩
theorem LowAt.cell {s : ByteArray} {B k : Nat} {w : World} (h : LowAt s B k w) (hk : k < s.size) : w.cell? ⟨B, k, none⟩ = some (.int .u8 (bt s k)) := by
  obtain ⟨cs, hh, hs, hc⟩ := h
  have := hc k hk
  simp [World.cell?, hh, this]
theorem LowAt.free {s : ByteArray} {B k j : Nat} {w : World} (h : LowAt s B k w) (hj : j < s.size) : w.frozen? ⟨B, j, none⟩ = false := by
  obtain ⟨cs, hh, hs, hc⟩ := h
  simp [World.frozen?, hh]
  omega
theorem LowAt.same {s : ByteArray} {B k : Nat} {w : World} (h : LowAt s B k w) (hl : lowB (bt s k) = bt s k) : LowAt s B (k + 1) w := by
  obtain ⟨cs, hh, hs, hc⟩ := h
  refine ⟨cs, hh, hs, fun j hj => ?_⟩
  rw [hc j hj]
  by_cases e : j = k
  · subst e; rw [if_neg (by omega), if_pos (by omega), hl]
  · by_cases h1 : j < k
    · rw [if_pos h1, if_pos (by omega)]
    · rw [if_neg h1, if_neg (by omega)]
theorem LowAt.set {s : ByteArray} {B k : Nat} {w : World} (h : LowAt s B k w) (hk : k < s.size) (v : Int) (hv : v = lowB (bt s k)) : LowAt s B (k + 1) (w.setCell ⟨B, k, none⟩ (.int .u8 v)) := by
  obtain ⟨cs, hh, hs, hc⟩ := h
  refine ⟨cs.setIfInBounds k (.int .u8 v), ?_, by simpa using hs, fun j hj => ?_⟩
  · simp [World.setCell, Array.getElem?_modify, hh]
  · rw [Array.getElem?_setIfInBounds]
    by_cases e : k = j
    · subst e; rw [if_pos rfl, if_pos (by omega), if_pos (by omega), hv]
    · rw [if_neg e, hc j hj]
      by_cases h1 : j < k
      · rw [if_pos h1, if_pos (by omega)]
      · rw [if_neg h1, if_neg (by omega)]
theorem LowAt.drewN {s : ByteArray} {B k : Nat} {w : World} (h : LowAt s B k w) (n : Nat) : LowAt s B k (w.drewN n) := h
theorem LowAt.all {s : ByteArray} {B k : Nat} {w : World} (h : LowAt s B k w) (hk : s.size ≤ k) (cap : Nat) :
    (convert 102 9 (.slice (some ⟨B, 0, none⟩) s.size cap)).run Tryz.prog w = .ok (.string (strOfNums ((bytesOf s).map lowB))) w := by
  refine run_convert_bytes_arg w 102 5 Tryz.underlying102 Tryz.underlying5 B 0 s.size cap _ (by rw [List.length_map, bytesOf_length]) (fun i hi => ?_) 9 Tryz.underlying9
  obtain ⟨cs, hh, hs, hc⟩ := h
  have h1 := hc i hi
  rw [if_pos (by omega)] at h1
  have h2 : ((bytesOf s).map lowB).getD i 0 = lowB (bt s i) := by
    have hl : i < (bytesOf s).length := by rw [bytesOf_length]; exact hi
    rw [List.getD_eq_getElem?_getD, List.getElem?_map, List.getElem?_eq_getElem hl]
    have := rd_bytesOf s i
    simp only [rd, Int.toNat_natCast, List.getD_eq_getElem?_getD, List.getElem?_eq_getElem hl] at this
    simpa using congrArg lowB this
  rw [h2]
  simp [World.cell?, hh, h1]
theorem bytes_below' (w : World) (e : TypeId) (s : ByteArray) : Below w.heap.size w (Lib.bytesWorld w e s) := bytes_below (Below.refl _ _) (Nat.le_refl _) e s
theorem below_setB {B : Nat} {w W : World} (h : Below B w W) (k : Nat) (hk : B ≤ k) (j : Nat) (u : Value) : Below B w (W.setCell ⟨k, j, none⟩ u) := h.setCell (by simpa using hk) u

set_option maxHeartbeats 2000000 in
set_option maxRecDepth 100000 in
theorem text_Lower.calls (a0 : ByteArray) (r : ByteArray) (w : World) (h : text_Lower.f a0 = some r) :
    Calls Tryz.prog 117 #[.string a0] w fun e w' => e = .returned (.string r) ∧ Below w.heap.size w w' := by
  unfold text_Lower.f at h
  split at h
  case isFalse => exact absurd h (by simp)
  rename_i hs
  obtain rfl := Option.some.inj h
  clear h
  have hcv := fun (W : World) => Lib.run_convert_string_bytes (P := Tryz.prog) W 9 102 5 a0 Tryz.underlying9 Tryz.underlying102 Tryz.underlying5
  go_enter Tryz.func117, Tryz.ntmps117
  go_wp2
  clear hcv
  go_loopw [10] (fun i w' => ∃ k : Nat, i = .int .i64 k ∧ k ≤ a0.size ∧ LowAt a0 w.heap.size k w' ∧ Below w.heap.size w w') (fun i _ => a0.size - (intOf i).toNat)
  case atStart => exact ⟨0, rfl, by omega, lowAt_start w a0, bytes_below' w _ a0⟩
  case round =>
    obtain ⟨k, rfl, hk, hL, hB⟩ := hrel
    have HL := Aside0.mk hL
    have HB := Aside0.mk hB
    clear hL hB
    by_cases hlt : k < a0.size
    · have hcell := HL.out.cell hlt
      have hfree := HL.out.free (j := k) hlt
      have hb := bt_range a0 k
      have hb0 := hb.1
      have hb1 := hb.2
      clear hb
      by_cases hu : 65 ≤ bt a0 k ∧ bt a0 k ≤ 90
      · obtain ⟨hu0, hu1⟩ := hu
        have hup : text_upper.f (bt a0 k) = some true := by unfold text_upper.f; rw [if_pos hu0]; simp [hu1]
        have HU := Aside0.mk hup
        clear hup
        go_wp2_with (go_at_call 131; refine (text_upper.calls _ true _ HU.out).mono ?_; rintro e w' ⟨rfl, ⟨n, rfl⟩⟩)
        go_roundw
        case rel => exact ⟨k + 1, by go_num, by omega, (HL.out.drewN _).set hlt _ (by unfold lowB; rw [if_pos ⟨hu0, hu1⟩]; omega), below_setB (pw_below_drewN HB.out _) _ (Nat.le_refl _) _ _⟩
        case measure => simp [intOf]; omega
      · have hup : text_upper.f (bt a0 k) = some false := by
          unfold text_upper.f
          by_cases h1 : bt a0 k ≥ 65
          · rw [if_pos h1]; simp; omega
          · rw [if_neg h1]
        have HU := Aside0.mk hup
        have HN := Aside0.mk hu
        clear hup hu
        go_wp2_with (go_at_call 131; refine (text_upper.calls _ false _ HU.out).mono ?_; rintro e w' ⟨rfl, ⟨n, rfl⟩⟩)
        go_roundw
        case rel => exact ⟨k + 1, by go_num, by omega, (HL.out.drewN _).same (by unfold lowB; rw [if_neg HN.out]), pw_below_drewN HB.out _⟩
        case measure => simp [intOf]; omega
    · have hcv := fun cap => HL.out.all (by omega) cap
      go_wp2
      go_ret
      exact ⟨rfl, HB.out⟩
end Go.Proofs.YthdognlkacjkhaaGreatDoor.P
