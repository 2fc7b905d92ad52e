/-
  The contract of text.Number: the number of a text's digits in a base, sign by sign.
-/
import Derived.Test.YthdognlkacjkhaaGreatDoorBase
import Derived.Test.YthdognlkacjkhaaGreatDoorM14
import Derived.Lib.RuneCount
import Derived.Laws.RangeAny
import Derived.Lib.OthersKept
namespace Go.Proofs.YthdognlkacjkhaaGreatDoor.P
open Go.RowKit Go.Proofs.YthdognlkacjkhaaGreatDoorW.PrintWords Go.Proofs.YthdognlkacjkhaaGreatDoorW.PrintLast Go.Proofs.YthdognlkacjkhaaGreatDoorW.PrintMore
set_option linter.unusedVariables false
set_option linter.unusedSimpArgs false

def valI (c : Int) : Int := if 48 ≤ c ∧ c ≤ 57 then c - 48 else if 97 ≤ c ∧ c ≤ 102 then c - 87 else if 65 ≤ c ∧ c ≤ 70 then c - 55 else -1
theorem valI_range (c : Int) : -1 ≤ valI c ∧ valI c ≤ 15 := by
  unfold valI
  constructor <;> (repeat' split) <;> omega
theorem val1 {c : Int} (a : 48 ≤ c) (b : c ≤ 57) : valI c = c - 48 := if_pos ⟨a, b⟩
theorem val2 {c : Int} (a : 97 ≤ c) (b : c ≤ 102) : valI c = c - 87 := by
  unfold valI; rw [if_neg (show ¬ (48 ≤ c ∧ c ≤ 57) by omega), if_pos (show 97 ≤ c ∧ c ≤ 102 from ⟨a, b⟩)]
theorem val3 {c : Int} (a : 65 ≤ c) (b : c ≤ 70) : valI c = c - 55 := by
  unfold valI; rw [if_neg (show ¬ (48 ≤ c ∧ c ≤ 57) by omega), if_neg (show ¬ (97 ≤ c ∧ c ≤ 102) by omega), if_pos (show 65 ≤ c ∧ c ≤ 70 from ⟨a, b⟩)]
theorem val4 {c : Int} (a : ¬ (48 ≤ c ∧ c ≤ 57)) (b : ¬ (97 ≤ c ∧ c ≤ 102)) (d : ¬ (65 ≤ c ∧ c ≤ 70)) : valI c = -1 := by
  unfold valI; rw [if_neg a, if_neg b, if_neg d]
theorem value_valI (c : Int) (h0 : 0 ≤ c) (h1 : c ≤ 2147483647) : text_value.f 1 c = some (valI c) := by
  have w1 : 48 ≤ c → wrap64 (wrap32 (c - 48)) = c - 48 := by unfold wrap64 wrap32; omega
  have w2 : 97 ≤ c → wrap64 (wrap64 (wrap32 (c - 97)) + 10) = c - 87 := by unfold wrap64 wrap32; omega
  have w3 : 65 ≤ c → wrap64 (wrap64 (wrap32 (c - 65)) + 10) = c - 55 := by unfold wrap64 wrap32; omega
  unfold text_value.f text_digit.f
  by_cases a : 48 ≤ c
  · rw [if_pos a]
    by_cases b : c ≤ 57
    · rw [val1 a b, w1 a]
      simp only [Option.bind_some, decide_eq_true b, if_true]
    · have hb : decide (c ≤ 57) = false := decide_eq_false b
      simp only [Option.bind_some, hb, Bool.false_eq_true, if_false]
      by_cases d : c ≥ 97
      · rw [if_pos d]
        by_cases e : c ≤ 102
        · rw [val2 d e]
          simp only [text_value.j0, decide_eq_true e, if_true, w2 d]
        · have he : decide (c ≤ 102) = false := decide_eq_false e
          rw [val4 (by omega) (by omega) (by omega)]
          simp only [text_value.j0, he, Bool.false_eq_true, if_false]
          rw [if_pos (by omega), if_neg (by omega)]
      · rw [if_neg d]
        simp only [text_value.j0, Bool.false_eq_true, if_false]
        by_cases e : c ≥ 65
        · rw [if_pos e]
          by_cases g : c ≤ 70
          · rw [if_pos g, val3 e g, w3 e]
          · rw [if_neg g, val4 (by omega) (by omega) (by omega)]
        · rw [if_neg e, val4 (by omega) (by omega) (by omega)]
  · rw [if_neg a, val4 (by omega) (by omega) (by omega)]
    simp only [Option.bind_some, Bool.false_eq_true, if_false]
    rw [if_neg (by omega)]
    simp only [text_value.j0, Bool.false_eq_true, if_false]
    rw [if_neg (by omega)]

def numFrom (s : ByteArray) (base : Int) : Nat → Nat → Int → Int × Bool
  | 0, _, n => (n, decide (0 < s.size))
  | f + 1, pos, n =>
    if pos < s.size then
      if valI (Utf8.decode s pos).1 < 0 ∨ base ≤ valI (Utf8.decode s pos).1 then (0, false)
      else if 1099511627776 < n * base + valI (Utf8.decode s pos).1 then (0, false)
      else numFrom s base f (pos + (Utf8.decode s pos).2) (n * base + valI (Utf8.decode s pos).1)
    else (n, decide (0 < s.size))
def text_Number.f (a0 : ByteArray) (a1 : Int) : Option (Int × Bool) := if 0 ≤ a1 ∧ a1 ≤ 1000 then some (numFrom a0 a1 a0.size 0 0) else none

theorem iter_below' (w : World) (s : ByteArray) (p : Nat) : Below w.heap.size w (w.iter s p) := (Below.refl _ _).alloc (Nat.le_refl _) _
theorem numFrom_end (s : ByteArray) (base : Int) (f pos : Nat) (n : Int) (h : ¬ pos < s.size) : numFrom s base f pos n = (n, decide (0 < s.size)) := by
  cases f <;> simp [numFrom, h]
theorem numFrom_bad (s : ByteArray) (base : Int) (f pos : Nat) (n : Int) (hp : pos < s.size) (h : valI (Utf8.decode s pos).1 < 0 ∨ base ≤ valI (Utf8.decode s pos).1) : numFrom s base (f + 1) pos n = (0, false) := by
  simp only [numFrom, if_pos hp, if_pos h]
theorem numFrom_far (s : ByteArray) (base : Int) (f pos : Nat) (n : Int) (hp : pos < s.size) (h : ¬ (valI (Utf8.decode s pos).1 < 0 ∨ base ≤ valI (Utf8.decode s pos).1)) (h2 : 1099511627776 < n * base + valI (Utf8.decode s pos).1) : numFrom s base (f + 1) pos n = (0, false) := by
  simp only [numFrom, if_pos hp, if_neg h, if_pos h2]
theorem numFrom_step (s : ByteArray) (base : Int) (f pos : Nat) (n : Int) (hp : pos < s.size) (h : ¬ (valI (Utf8.decode s pos).1 < 0 ∨ base ≤ valI (Utf8.decode s pos).1)) (h2 : ¬ 1099511627776 < n * base + valI (Utf8.decode s pos).1) : numFrom s base (f + 1) pos n = numFrom s base f (pos + (Utf8.decode s pos).2) (n * base + valI (Utf8.decode s pos).1) := by
  simp only [numFrom, if_pos hp, if_neg h, if_neg h2]
theorem mul_small (n b : Int) (h0 : 0 ≤ n) (h1 : n ≤ 1099511627776) (h2 : 0 ≤ b) (h3 : b ≤ 1000) : 0 ≤ n * b ∧ n * b ≤ 1099511627776000 := by
  refine ⟨Int.mul_nonneg h0 h2, ?_⟩
  have := Int.mul_le_mul h1 h3 h2 (by omega)
  omega

set_option maxHeartbeats 2000000 in
set_option maxRecDepth 100000 in
theorem text_Number.calls (a0 : ByteArray) (a1 : Int) (r1 : Int) (r2 : Bool) (w : World) (h : text_Number.f a0 a1 = some (r1, r2)) :
    Calls Tryz.prog 38 #[.string a0, .int .i64 a1] w fun e w' => e = .returned (.tuple #[.int .i64 r1, .bool r2]) ∧ Below w.heap.size w w' := by
  unfold text_Number.f at h
  split at h
  case isFalse => exact absurd h (by simp)
  rename_i hb
  obtain ⟨hb0, hb1⟩ := hb
  have H := Aside0.mk (Option.some.inj h)
  clear h
  go_enter Tryz.func38, Tryz.ntmps38
  go_wp2
  go_loopw [6] (fun n w' => ∃ (pos b : Nat) (c : Int), w'.heap[w.heap.size]? = some (.stringIter a0 pos) ∧ Below w.heap.size w w' ∧ n = .int .i64 c ∧ Aside0 (numFrom a0 a1 b pos c = (r1, r2)) ∧ a0.size ≤ pos + b ∧ 0 ≤ c ∧ c ≤ 1099511627776) (fun _ w' => a0.size - w'.iterPos w.heap.size)
  case atStart => exact ⟨0, a0.size, 0, World.iter_heap w a0 0, iter_below' w a0 0, rfl, H, by omega, by omega, by omega⟩
  case round =>
    obtain ⟨pos, b, c, hit, hB, rfl, hc, hb, hc0, hc1⟩ := hrel
    clear H
    have HI := Aside0.mk hit
    have HB := Aside0.mk hB
    have hsz : w.heap.size < wr.heap.size := blk_lt hit
    clear hB
    by_cases hp : pos < a0.size
    · obtain ⟨b, rfl⟩ : ∃ b', b = b' + 1 := ⟨b - 1, by omega⟩
      have hnx : ∀ ty, (Instr.next (.pointer (some ⟨w.heap.size, 0, none⟩)) true ty).run Tryz.prog wr = _ := fun ty => Lib.run_next_any_at wr w.heap.size a0 pos ty hit hp
      clear hit
      have HI2 := Aside0.mk (Lib.iterAt_heap wr w.heap.size a0 pos (pos + (Utf8.decode a0 pos).2) HI.out)
      have HB2 := Aside0.mk (Lib.below_iterAt HB.out (k := w.heap.size) (Nat.le_refl _) a0 (pos + (Utf8.decode a0 pos).2))
      have hwd := Lib.decode_width_pos a0 pos hp
      have hle := decode_le a0 pos
      have hv := Aside0.mk (value_valI (Utf8.decode a0 pos).1 (by omega) (by omega))
      have hr := valI_range (Utf8.decode a0 pos).1
      obtain ⟨hr0, hr1⟩ := hr
      generalize hg : valI (Utf8.decode a0 pos).1 = v at hr0 hr1
      have HG := Aside0.mk hg
      rw [hg] at hv
      clear hg
      by_cases hbad : v < 0 ∨ a1 ≤ v
      · have HC := Aside0.mk (hc.out.symm.trans (numFrom_bad a0 a1 b pos c hp (by rw [HG.out]; exact hbad)))
        clear hc
        by_cases hneg : v < 0
        · go_wp2_with (go_at_call 67; refine (text_value.calls 1 _ v _ hv.out).mono ?_; rintro e w' ⟨rfl, ⟨n, rfl⟩⟩)
          go_ret2
          have h1 := congrArg Prod.fst HC.out
          have h2 := congrArg Prod.snd HC.out
          simp only at h1 h2
          subst h1 h2
          exact ⟨rfl, pw_below_drewN HB2.out _⟩
        · have hge : a1 ≤ v := by omega
          clear hbad
          go_wp2_with (go_at_call 67; refine (text_value.calls 1 _ v _ hv.out).mono ?_; rintro e w' ⟨rfl, ⟨n, rfl⟩⟩)
          go_ret2
          have h1 := congrArg Prod.fst HC.out
          have h2 := congrArg Prod.snd HC.out
          simp only at h1 h2
          subst h1 h2
          exact ⟨rfl, pw_below_drewN HB2.out _⟩
      · have hm := mul_small c a1 hc0 hc1 hb0 hb1
        have hg0 : ¬ v < 0 := fun h => hbad (.inl h)
        have hg1 : ¬ a1 ≤ v := fun h => hbad (.inr h)
        have HBAD := Aside0.mk hbad
        clear hbad
        generalize hq : c * a1 = q at hm
        have HQ := Aside0.mk hq
        obtain ⟨hm0, hm1⟩ := hm
        by_cases hfar : 1099511627776 < q + v
        · have HC := Aside0.mk (hc.out.symm.trans (numFrom_far a0 a1 b pos c hp (by rw [HG.out]; exact HBAD.out) (by rw [HG.out, HQ.out]; exact hfar)))
          clear hc
          go_wp2_with (go_at_call 67; refine (text_value.calls 1 _ v _ hv.out).mono ?_; rintro e w' ⟨rfl, ⟨n, rfl⟩⟩)
          go_ret2
          have h1 := congrArg Prod.fst HC.out
          have h2 := congrArg Prod.snd HC.out
          simp only at h1 h2
          subst h1 h2
          exact ⟨rfl, pw_below_drewN HB2.out _⟩
        · have HC := Aside0.mk (hc.out.symm.trans (numFrom_step a0 a1 b pos c hp (by rw [HG.out]; exact HBAD.out) (by rw [HG.out, HQ.out]; exact hfar)))
          rw [HG.out, HQ.out] at HC
          clear hc
          go_wp2_with (go_at_call 67; refine (text_value.calls 1 _ v _ hv.out).mono ?_; rintro e w' ⟨rfl, ⟨n, rfl⟩⟩)
          go_roundw
          case rel => exact ⟨pos + (Utf8.decode a0 pos).2, b, q + v, HI2.out, pw_below_drewN HB2.out _, rfl, ⟨HC.out.symm⟩, by omega, by omega, by omega⟩
          case measure =>
            have e1 : ((wr.iterAt w.heap.size a0 (pos + (Utf8.decode a0 pos).2)).drewN n).iterPos w.heap.size = pos + (Utf8.decode a0 pos).2 := by
              show World.iterPos (wr.iterAt w.heap.size a0 (pos + (Utf8.decode a0 pos).2)) w.heap.size = _
              simp only [World.iterPos, HI2.out]
            have e2 : wr.iterPos w.heap.size = pos := by simp only [World.iterPos, HI.out]
            rw [e1, e2]
            omega
    · have hnx : ∀ ty, (Instr.next (.pointer (some ⟨w.heap.size, 0, none⟩)) true ty).run Tryz.prog wr = _ := fun ty => Lib.run_next_end_at wr w.heap.size a0 pos ty hit hp
      clear hit
      have HC := Aside0.mk (hc.out.symm.trans (numFrom_end a0 a1 b pos c hp))
      clear hc
      have h1 := Aside0.mk (congrArg Prod.fst HC.out)
      have h2 := Aside0.mk (congrArg Prod.snd HC.out)
      go_wp2
      go_ret2
      refine ⟨?_, HB.out⟩
      show Ending.returned (.tuple #[.int .i64 c, .bool (!a0.toList.isEmpty)]) = _
      rw [h1.out, h2.out, isEmpty_eq]
end Go.Proofs.YthdognlkacjkhaaGreatDoor.P
