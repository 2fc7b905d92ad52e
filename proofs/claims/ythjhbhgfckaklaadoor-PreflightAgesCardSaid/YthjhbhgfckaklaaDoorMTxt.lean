/-
  One text out of: TextC, TextD, TextE, TextF.
-/
import Derived.Test.YthjhbhgfckaklaaDoorBase
import Derived.Test.YthjhbhgfckaklaaDoorPA1
import Derived.Lib.RuneCount
import Derived.Laws.RangeAny
import Derived.Lib.OthersKept
import Derived.Lib.Bytealg
import Derived.Laws.Runes
import Derived.Shelf.Abstract
import Derived.Outline
import Derived.WalkMore
import Derived.LoopN
section
namespace Go.Proofs.YthjhbhgfckaklaaDoor.P
open Go.RowKit Go.Proofs.YthjhbhgfckaklaaDoorW.PrintWords Go.Proofs.YthjhbhgfckaklaaDoorW.PrintLast Go.Proofs.YthjhbhgfckaklaaDoorW.PrintMore
set_option linter.unusedVariables false
set_option linter.unusedSimpArgs false

def valI (c : Int) : Int := if 48 ≤ c ∧ c ≤ 57 then c - 48 else if 97 ≤ c ∧ c ≤ 102 then c - 87 else if 65 ≤ c ∧ c ≤ 70 then c - 55 else -1
theorem valI_range (c : Int) : -1 ≤ valI c ∧ valI c ≤ 15 := by
  unfold valI
  constructor <;> (repeat' split) <;> omega
theorem val1 {c : Int} (a : 48 ≤ c) (b : c ≤ 57) : valI c = c - 48 := if_pos ⟨a, b⟩
theorem val2 {c : Int} (a : 97 ≤ c) (b : c ≤ 102) : valI c = c - 87 := by
  unfold valI; rw [if_neg (show ¬ (48 ≤ c ∧ c ≤ 57) by omega), if_pos (show 97 ≤ c ∧ c ≤ 102 from ⟨a, b⟩)]
theorem val3 {c : Int} (a : 65 ≤ c) (b : c ≤ 70) : valI c = c - 55 := by
  unfold valI; rw [if_neg (show ¬ (48 ≤ c ∧ c ≤ 57) by omega), if_neg (show ¬ (97 ≤ c ∧ c ≤ 102) by omega), if_pos (show 65 ≤ c ∧ c ≤ 70 from ⟨a, b⟩)]
theorem val4 {c : Int} (a : ¬ (48 ≤ c ∧ c ≤ 57)) (b : ¬ (97 ≤ c ∧ c ≤ 102)) (d : ¬ (65 ≤ c ∧ c ≤ 70)) : valI c = -1 := by
  unfold valI; rw [if_neg a, if_neg b, if_neg d]
theorem value_valI (c : Int) (h0 : 0 ≤ c) (h1 : c ≤ 2147483647) : text_value.f 1 c = some (valI c) := by
  have w1 : 48 ≤ c → wrap64 (wrap32 (c - 48)) = c - 48 := by unfold wrap64 wrap32; omega
  have w2 : 97 ≤ c → wrap64 (wrap64 (wrap32 (c - 97)) + 10) = c - 87 := by unfold wrap64 wrap32; omega
  have w3 : 65 ≤ c → wrap64 (wrap64 (wrap32 (c - 65)) + 10) = c - 55 := by unfold wrap64 wrap32; omega
  unfold text_value.f text_digit.f
  by_cases a : 48 ≤ c
  · rw [if_pos a]
    by_cases b : c ≤ 57
    · rw [val1 a b, w1 a]
      simp only [Option.bind_some, decide_eq_true b, if_true]
    · have hb : decide (c ≤ 57) = false := decide_eq_false b
      simp only [Option.bind_some, hb, Bool.false_eq_true, if_false]
      by_cases d : c ≥ 97
      · rw [if_pos d]
        by_cases e : c ≤ 102
        · rw [val2 d e]
          simp only [text_value.j0, decide_eq_true e, if_true, w2 d]
        · have he : decide (c ≤ 102) = false := decide_eq_false e
          rw [val4 (by omega) (by omega) (by omega)]
          simp only [text_value.j0, he, Bool.false_eq_true, if_false]
          rw [if_pos (by omega), if_neg (by omega)]
      · rw [if_neg d]
        simp only [text_value.j0, Bool.false_eq_true, if_false]
        by_cases e : c ≥ 65
        · rw [if_pos e]
          by_cases g : c ≤ 70
          · rw [if_pos g, val3 e g, w3 e]
          · rw [if_neg g, val4 (by omega) (by omega) (by omega)]
        · rw [if_neg e, val4 (by omega) (by omega) (by omega)]
  · rw [if_neg a, val4 (by omega) (by omega) (by omega)]
    simp only [Option.bind_some, Bool.false_eq_true, if_false]
    rw [if_neg (by omega)]
    simp only [text_value.j0, Bool.false_eq_true, if_false]
    rw [if_neg (by omega)]

-- EXT abatis/text.Number {"rounds": 0, "making": 1}
def numFrom (s : ByteArray) (base : Int) : Nat → Nat → Int → Int × Bool
  | 0, _, n => (n, decide (0 < s.size))
  | f + 1, pos, n =>
    if pos < s.size then
      if valI (Utf8.decode s pos).1 < 0 ∨ base ≤ valI (Utf8.decode s pos).1 then (0, false)
      else if 1099511627776 < n * base + valI (Utf8.decode s pos).1 then (0, false)
      else numFrom s base f (pos + (Utf8.decode s pos).2) (n * base + valI (Utf8.decode s pos).1)
    else (n, decide (0 < s.size))
def text_Number.f (a0 : ByteArray) (a1 : Int) : Option (Int × Bool) := if 0 ≤ a1 ∧ a1 ≤ 1000 then some (numFrom a0 a1 a0.size 0 0) else none

theorem iter_below' (w : World) (s : ByteArray) (p : Nat) : Below w.heap.size w (w.iter s p) := (Below.refl _ _).alloc (Nat.le_refl _) _
theorem numFrom_end (s : ByteArray) (base : Int) (f pos : Nat) (n : Int) (h : ¬ pos < s.size) : numFrom s base f pos n = (n, decide (0 < s.size)) := by
  cases f <;> simp [numFrom, h]
theorem numFrom_bad (s : ByteArray) (base : Int) (f pos : Nat) (n : Int) (hp : pos < s.size) (h : valI (Utf8.decode s pos).1 < 0 ∨ base ≤ valI (Utf8.decode s pos).1) : numFrom s base (f + 1) pos n = (0, false) := by
  simp only [numFrom, if_pos hp, if_pos h]
theorem numFrom_far (s : ByteArray) (base : Int) (f pos : Nat) (n : Int) (hp : pos < s.size) (h : ¬ (valI (Utf8.decode s pos).1 < 0 ∨ base ≤ valI (Utf8.decode s pos).1)) (h2 : 1099511627776 < n * base + valI (Utf8.decode s pos).1) : numFrom s base (f + 1) pos n = (0, false) := by
  simp only [numFrom, if_pos hp, if_neg h, if_pos h2]
theorem numFrom_step (s : ByteArray) (base : Int) (f pos : Nat) (n : Int) (hp : pos < s.size) (h : ¬ (valI (Utf8.decode s pos).1 < 0 ∨ base ≤ valI (Utf8.decode s pos).1)) (h2 : ¬ 1099511627776 < n * base + valI (Utf8.decode s pos).1) : numFrom s base (f + 1) pos n = numFrom s base f (pos + (Utf8.decode s pos).2) (n * base + valI (Utf8.decode s pos).1) := by
  simp only [numFrom, if_pos hp, if_neg h, if_neg h2]
theorem mul_small (n b : Int) (h0 : 0 ≤ n) (h1 : n ≤ 1099511627776) (h2 : 0 ≤ b) (h3 : b ≤ 1000) : 0 ≤ n * b ∧ n * b ≤ 1099511627776000 := by
  refine ⟨Int.mul_nonneg h0 h2, ?_⟩
  have := Int.mul_le_mul h1 h3 h2 (by omega)
  omega

set_option maxHeartbeats 2000000 in
set_option maxRecDepth 100000 in
theorem text_Number.calls (a0 : ByteArray) (a1 : Int) (r1 : Int) (r2 : Bool) (w : World) (h : text_Number.f a0 a1 = some (r1, r2)) :
    Calls Tryd.prog 61 #[.string a0, .int .i64 a1] w fun e w' => e = .returned (.tuple #[.int .i64 r1, .bool r2]) ∧ Below w.heap.size w w' := by
  unfold text_Number.f at h
  split at h
  case isFalse => exact absurd h (by simp)
  rename_i hb
  obtain ⟨hb0, hb1⟩ := hb
  have H := Aside0.mk (Option.some.inj h)
  clear h
  go_enter Tryd.func61, Tryd.ntmps61
  go_wp2
  go_loopw [6] (fun n w' => ∃ (pos b : Nat) (c : Int), w'.heap[w.heap.size]? = some (.stringIter a0 pos) ∧ Below w.heap.size w w' ∧ n = .int .i64 c ∧ Aside0 (numFrom a0 a1 b pos c = (r1, r2)) ∧ a0.size ≤ pos + b ∧ 0 ≤ c ∧ c ≤ 1099511627776) (fun _ w' => a0.size - w'.iterPos w.heap.size)
  case atStart => exact ⟨0, a0.size, 0, World.iter_heap w a0 0, iter_below' w a0 0, rfl, H, by omega, by omega, by omega⟩
  case round =>
    obtain ⟨pos, b, c, hit, hB, rfl, hc, hb, hc0, hc1⟩ := hrel
    clear H
    have HI := Aside0.mk hit
    have HB := Aside0.mk hB
    have hsz : w.heap.size < wr.heap.size := blk_lt hit
    clear hB
    by_cases hp : pos < a0.size
    · obtain ⟨b, rfl⟩ : ∃ b', b = b' + 1 := ⟨b - 1, by omega⟩
      have hnx : ∀ ty, (Instr.next (.pointer (some ⟨w.heap.size, 0, none⟩)) true ty).run Tryd.prog wr = _ := fun ty => Lib.run_next_any_at wr w.heap.size a0 pos ty hit hp
      clear hit
      have HI2 := Aside0.mk (Lib.iterAt_heap wr w.heap.size a0 pos (pos + (Utf8.decode a0 pos).2) HI.out)
      have HB2 := Aside0.mk (Lib.below_iterAt HB.out (k := w.heap.size) (Nat.le_refl _) a0 (pos + (Utf8.decode a0 pos).2))
      have hwd := Lib.decode_width_pos a0 pos hp
      have hle := decode_le a0 pos
      have hv := Aside0.mk (value_valI (Utf8.decode a0 pos).1 (by omega) (by omega))
      have hr := valI_range (Utf8.decode a0 pos).1
      obtain ⟨hr0, hr1⟩ := hr
      generalize hg : valI (Utf8.decode a0 pos).1 = v at hr0 hr1
      have HG := Aside0.mk hg
      rw [hg] at hv
      clear hg
      by_cases hbad : v < 0 ∨ a1 ≤ v
      · have HC := Aside0.mk (hc.out.symm.trans (numFrom_bad a0 a1 b pos c hp (by rw [HG.out]; exact hbad)))
        clear hc
        by_cases hneg : v < 0
        · go_wp2_with (go_at_call 94; refine (text_value.calls 1 _ v _ hv.out).mono ?_; rintro e w' ⟨rfl, ⟨n, rfl⟩⟩)
          go_ret2
          have h1 := congrArg Prod.fst HC.out
          have h2 := congrArg Prod.snd HC.out
          simp only at h1 h2
          subst h1 h2
          exact ⟨rfl, pw_below_drewN HB2.out _⟩
        · have hge : a1 ≤ v := by omega
          clear hbad
          go_wp2_with (go_at_call 94; refine (text_value.calls 1 _ v _ hv.out).mono ?_; rintro e w' ⟨rfl, ⟨n, rfl⟩⟩)
          go_ret2
          have h1 := congrArg Prod.fst HC.out
          have h2 := congrArg Prod.snd HC.out
          simp only at h1 h2
          subst h1 h2
          exact ⟨rfl, pw_below_drewN HB2.out _⟩
      · have hm := mul_small c a1 hc0 hc1 hb0 hb1
        have hg0 : ¬ v < 0 := fun h => hbad (.inl h)
        have hg1 : ¬ a1 ≤ v := fun h => hbad (.inr h)
        have HBAD := Aside0.mk hbad
        clear hbad
        generalize hq : c * a1 = q at hm
        have HQ := Aside0.mk hq
        obtain ⟨hm0, hm1⟩ := hm
        by_cases hfar : 1099511627776 < q + v
        · have HC := Aside0.mk (hc.out.symm.trans (numFrom_far a0 a1 b pos c hp (by rw [HG.out]; exact HBAD.out) (by rw [HG.out, HQ.out]; exact hfar)))
          clear hc
          go_wp2_with (go_at_call 94; refine (text_value.calls 1 _ v _ hv.out).mono ?_; rintro e w' ⟨rfl, ⟨n, rfl⟩⟩)
          go_ret2
          have h1 := congrArg Prod.fst HC.out
          have h2 := congrArg Prod.snd HC.out
          simp only at h1 h2
          subst h1 h2
          exact ⟨rfl, pw_below_drewN HB2.out _⟩
        · have HC := Aside0.mk (hc.out.symm.trans (numFrom_step a0 a1 b pos c hp (by rw [HG.out]; exact HBAD.out) (by rw [HG.out, HQ.out]; exact hfar)))
          rw [HG.out, HQ.out] at HC
          clear hc
          go_wp2_with (go_at_call 94; refine (text_value.calls 1 _ v _ hv.out).mono ?_; rintro e w' ⟨rfl, ⟨n, rfl⟩⟩)
          go_roundw
          case rel => exact ⟨pos + (Utf8.decode a0 pos).2, b, q + v, HI2.out, pw_below_drewN HB2.out _, rfl, ⟨HC.out.symm⟩, by omega, by omega, by omega⟩
          case measure =>
            have e1 : ((wr.iterAt w.heap.size a0 (pos + (Utf8.decode a0 pos).2)).drewN n).iterPos w.heap.size = pos + (Utf8.decode a0 pos).2 := by
              show World.iterPos (wr.iterAt w.heap.size a0 (pos + (Utf8.decode a0 pos).2)) w.heap.size = _
              simp only [World.iterPos, HI2.out]
            have e2 : wr.iterPos w.heap.size = pos := by simp only [World.iterPos, HI.out]
            rw [e1, e2]
            omega
    · have hnx : ∀ ty, (Instr.next (.pointer (some ⟨w.heap.size, 0, none⟩)) true ty).run Tryd.prog wr = _ := fun ty => Lib.run_next_end_at wr w.heap.size a0 pos ty hit hp
      clear hit
      have HC := Aside0.mk (hc.out.symm.trans (numFrom_end a0 a1 b pos c hp))
      clear hc
      have h1 := Aside0.mk (congrArg Prod.fst HC.out)
      have h2 := Aside0.mk (congrArg Prod.snd HC.out)
      go_wp2
      go_ret2
      refine ⟨?_, HB.out⟩
      show Ending.returned (.tuple #[.int .i64 c, .bool (!a0.toList.isEmpty)]) = _
      rw [h1.out, h2.out, isEmpty_eq]
end Go.Proofs.YthjhbhgfckaklaaDoor.P
end
section
namespace Go.Proofs.YthjhbhgfckaklaaDoor.P
open Go.RowKit Go.Proofs.YthjhbhgfckaklaaDoorW.PrintWords Go.Proofs.YthjhbhgfckaklaaDoorW.PrintLast Go.Proofs.YthjhbhgfckaklaaDoorW.PrintMore
set_option linter.unusedVariables false
set_option linter.unusedSimpArgs false

/-- What a function value of runes gives: at every rune and world p of it; nothing that was there changes. -/
def RunePred (g : Nat) (p : Int → Bool) : Prop :=
  (∀ (args : Array Value) (w : World), (callFunc g args).run Tryd.prog w = .ok (.enter g args) w) ∧ ∀ (W : World) (c : Int), 0 ≤ c → c ≤ 2147483647 → Calls Tryd.prog g #[.int .i32 c] W fun e w' => e = .returned (.bool (p c)) ∧ Below W.heap.size W w'

def allFrom (p : Int → Bool) (s : ByteArray) : Nat → Nat → Bool
  | 0, _ => true
  | f + 1, pos => if pos < s.size then (if p (Utf8.decode s pos).1 = true then allFrom p s f (pos + (Utf8.decode s pos).2) else false) else true
theorem allFrom_end (p : Int → Bool) (s : ByteArray) (f pos : Nat) (h : ¬ pos < s.size) : allFrom p s f pos = true := by
  cases f <;> simp [allFrom, h]
theorem allFrom_no (p : Int → Bool) (s : ByteArray) (f pos : Nat) (h : pos < s.size) (hp : p (Utf8.decode s pos).1 = false) : allFrom p s (f + 1) pos = false := by
  simp [allFrom, h, hp]
theorem allFrom_yes (p : Int → Bool) (s : ByteArray) (f pos : Nat) (h : pos < s.size) (hp : p (Utf8.decode s pos).1 = true) : allFrom p s (f + 1) pos = allFrom p s f (pos + (Utf8.decode s pos).2) := by
  simp [allFrom, h, hp]
theorem blk_belowT {w w' : World} (h : Below w.heap.size w w') {k : Nat} {o : Obj} (hk : w.heap[k]? = some o) : w'.heap[k]? = some o := (h.block k (blk_lt hk)).trans hk

set_option maxHeartbeats 2000000 in
set_option maxRecDepth 100000 in
theorem text_all.calls (g : Nat) (p : Int → Bool) (hp : RunePred g p) (a0 : ByteArray) (w : World) :
    Calls Tryd.prog 127 #[.string a0, .func (.func g) #[] #[]] w fun e w' => e = .returned (.bool (allFrom p a0 a0.size 0)) ∧ Below w.heap.size w w' := by
  obtain ⟨heg, hp⟩ := hp
  have HP := Aside0.mk hp
  clear hp
  go_enter Tryd.func127, Tryd.ntmps127
  go_wp2
  go_loopw [] (fun w' => ∃ (pos b : Nat), w'.heap[w.heap.size]? = some (.stringIter a0 pos) ∧ Below w.heap.size w w' ∧ Aside0 (allFrom p a0 b pos = allFrom p a0 a0.size 0) ∧ a0.size ≤ pos + b) (fun w' => a0.size - w'.iterPos w.heap.size)
  case atStart => exact ⟨0, a0.size, World.iter_heap w a0 0, (Below.refl _ _).alloc (Nat.le_refl _) _, ⟨rfl⟩, by omega⟩
  case round =>
    obtain ⟨pos, b, hit, hB, hc, hb⟩ := hrel
    have HI := Aside0.mk hit
    have HB := Aside0.mk hB
    have hsz : w.heap.size < wr.heap.size := blk_lt hit
    clear hB
    by_cases hpos : pos < a0.size
    · obtain ⟨b, rfl⟩ : ∃ b', b = b' + 1 := ⟨b - 1, by omega⟩
      have hnx : ∀ ty, (Instr.next (.pointer (some ⟨w.heap.size, 0, none⟩)) true ty).run Tryd.prog wr = _ := fun ty => Lib.run_next_any_at wr w.heap.size a0 pos ty hit hpos
      clear hit
      have hwd := Lib.decode_width_pos a0 pos hpos
      have hle := decode_le a0 pos
      have HI2 := Aside0.mk (Lib.iterAt_heap wr w.heap.size a0 pos (pos + (Utf8.decode a0 pos).2) HI.out)
      have HB2 := Aside0.mk (Lib.below_iterAt HB.out (k := w.heap.size) (Nat.le_refl _) a0 (pos + (Utf8.decode a0 pos).2))
      go_wp2_with fail
      refine (HP.out _ ((Utf8.decode a0 pos).1 : Int) (by omega) (by omega)).mono ?_
      rintro e w1 ⟨rfl, h1⟩
      have HI3 := Aside0.mk (blk_belowT h1 HI2.out)
      have HB3 := Aside0.mk (below_then HB2.out (by rw [Lib.iterAt_size]; omega) h1)
      clear h1
      cases hx : p (Utf8.decode a0 pos).1 with
      | true =>
        have HC := Aside0.mk (hc.out.symm.trans (allFrom_yes p a0 b pos hpos hx))
        clear hx
        go_wp2
        go_roundw
        case rel => exact ⟨pos + (Utf8.decode a0 pos).2, b, HI3.out, HB3.out, ⟨HC.out.symm⟩, by omega⟩
        case measure =>
          simp only [World.iterPos, HI3.out, HI.out]
          omega
      | false =>
        have HC := Aside0.mk (hc.out.symm.trans (allFrom_no p a0 b pos hpos hx))
        clear hx
        go_wp2
        go_ret
        exact ⟨by rw [HC.out]; rfl, HB3.out⟩
    · have hnx : ∀ ty, (Instr.next (.pointer (some ⟨w.heap.size, 0, none⟩)) true ty).run Tryd.prog wr = _ := fun ty => Lib.run_next_end_at wr w.heap.size a0 pos ty hit hpos
      have HC := Aside0.mk (hc.out.symm.trans (allFrom_end p a0 b pos hpos))
      clear hit
      go_wp2
      go_ret
      exact ⟨by rw [HC.out]; rfl, HB.out⟩

/-! ### Plain -/
def plainB (c : Int) : Bool := decide (32 < c ∧ c ≤ 126)

end Go.Proofs.YthjhbhgfckaklaaDoor.P
end
section
namespace Go.Proofs.YthjhbhgfckaklaaDoor.P
open Go.RowKit Go.Proofs.YthjhbhgfckaklaaDoorW.PrintWords Go.Proofs.YthjhbhgfckaklaaDoorW.PrintLast Go.Proofs.YthjhbhgfckaklaaDoorW.PrintMore
set_option linter.unusedVariables false
set_option linter.unusedSimpArgs false

set_option maxRecDepth 100000 in
theorem stringslite_IndexByte.same (s : ByteArray) (c : Int) (w : World) :
    Calls Tryd.prog 111 #[.string s, .int .u8 c] w fun e w' => e = .returned (.int .i64 (Lib.indexByte s.data.toList c.toNat.toUInt8)) ∧ w' = w := by
  go_enter Tryd.func111, Tryd.ntmps111
  go_wp2
  rw [run_callFunc_extern Tryd.func138 (by kernel_rfl) (by kernel_rfl) (by kernel_rfl) (e := Extern.BytealgIndexByte.indexByte) (by kernel_rfl), Lib.run_indexByteString]
  simp only [Result.andThen]
  rw [Oper.upon_value]
  go_wp2
  go_ret
  exact ⟨rfl, rfl⟩
set_option maxRecDepth 100000 in
theorem strings_IndexByte.same (s : ByteArray) (c : Int) (w : World) :
    Calls Tryd.prog 158 #[.string s, .int .u8 c] w fun e w' => e = .returned (.int .i64 (Lib.indexByte s.data.toList c.toNat.toUInt8)) ∧ w' = w := by
  go_enter Tryd.func158, Tryd.ntmps158
  go_wp2_with (go_at_call 111; refine (stringslite_IndexByte.same _ _ _).mono ?_; rintro e w' ⟨rfl, rfl⟩)
  go_ret
  exact ⟨rfl, rfl⟩
-- EXT strings.IndexByte {"rounds": 0, "making": 0}
def strings_IndexByte.f (a0 : ByteArray) (a1 : Int) : Option Int := some (Lib.indexByte a0.data.toList a1.toNat.toUInt8)
theorem strings_IndexByte.calls (a0 : ByteArray) (a1 r : Int) (w : World) (h : strings_IndexByte.f a0 a1 = some r) :
    Calls Tryd.prog 158 #[.string a0, .int .u8 a1] w fun e w' => e = .returned (.int .i64 r) ∧ Drawn0 w w' := by
  obtain rfl := Option.some.inj h
  refine (strings_IndexByte.same a0 a1 w).mono ?_
  rintro e w' ⟨rfl, rfl⟩
  exact ⟨rfl, Drawn0.refl _⟩

/-- All bytes are below 128. -/
def LowL (s : ByteArray) : Prop := ∀ b ∈ s.data.toList, b.toNat < 128
theorem indexByte_high : ∀ (l : List UInt8) (c : UInt8), (∀ b ∈ l, b.toNat < 128) → 128 ≤ c.toNat → Lib.indexByte l c = -1
  | [], _, _, _ => rfl
  | b :: l, c, h, hc => by
    unfold Lib.indexByte
    have h1 : (b == c) = false := by
      rw [beq_eq_false_iff_ne]
      intro e
      have := h b (List.mem_cons_self ..)
      rw [e] at this
      omega
    rw [h1, indexByte_high l c (fun x hx => h x (List.mem_cons_of_mem _ hx)) hc]
    rfl
theorem LowL.at {s : ByteArray} (h : LowL s) (i : Nat) (hi : i < s.size) : (s[i]'hi).toNat < 128 := by
  refine h _ ?_
  have : i < s.data.toList.length := by rw [data_length]; exact hi
  exact List.getElem_mem this
def lowLB (s : ByteArray) : Bool := s.data.toList.all fun b => decide (b.toNat < 128)
theorem lowLB_low {s : ByteArray} (h : lowLB s = true) : LowL s := fun b hb => by
  have := List.all_eq_true.1 h b hb
  simpa using this
-- EXT strings.IndexRune {"rounds": 0, "making": 1}
def strings_IndexRune.f (a0 : ByteArray) (a1 : Int) : Option Int :=
  if lowLB a0 = true ∧ a0.size ≤ 100000 ∧ 0 ≤ a1 ∧ a1 ≤ 2147483647 then some (if a1 < 128 then Lib.indexByte a0.data.toList a1.toNat.toUInt8 else -1) else none

set_option maxHeartbeats 2000000 in
set_option maxRecDepth 100000 in
theorem indexRune_low (s : ByteArray) (r : Int) (w : World) (h0 : 0 ≤ r) (h1 : r < 128) :
    Calls Tryd.prog 147 #[.string s, .int .i32 r] w fun e w' => e = .returned (.int .i64 (Lib.indexByte s.data.toList r.toNat.toUInt8)) ∧ Below w.heap.size w w' := by
  have hm : r % 256 = r := by omega
  have HM := Aside0.mk hm
  clear hm
  go_enter Tryd.func147, Tryd.ntmps147
  go_wp2_with (go_at_call 158; refine (strings_IndexByte.same _ _ _).mono ?_; rintro e w' ⟨rfl, rfl⟩)
  go_ret
  exact ⟨by first | rfl | (simp only [HM.out]; rfl), Below.refl _ _⟩

set_option maxHeartbeats 2000000 in
set_option maxRecDepth 100000 in
theorem indexRune_error (s : ByteArray) (w : World) (hs : LowL s) :
    Calls Tryd.prog 147 #[.string s, .int .i32 65533] w fun e w' => e = .returned (.int .i64 (-1)) ∧ Below w.heap.size w w' := by
  have HS := Aside0.mk hs
  clear hs
  go_enter Tryd.func147, Tryd.ntmps147
  go_wp2
  go_loopw [] (fun w' => ∃ pos : Nat, w' = w.iter s pos) (fun w' => s.size - w'.iterPos w.heap.size)
  case atStart => exact ⟨0, rfl⟩
  case round =>
    obtain ⟨pos, rfl⟩ := hrel
    by_cases hp : pos < s.size
    · have hb := HS.out.at pos hp
      have hnx : ∀ ty, (Instr.next (.pointer (some ⟨w.heap.size, 0, none⟩)) true ty).run Tryd.prog (w.iter s pos) = _ := fun ty => run_next_ascii w s pos ty hp hb
      have hne : (((s[pos]'hp).toNat : Int) == 65533) = false := by rw [beq_eq_false_iff_ne]; omega
      go_wp2
      go_roundw
      case rel => exact ⟨pos + 1, rfl⟩
      case measure => simp; omega
    · have hnx : ∀ ty, (Instr.next (.pointer (some ⟨w.heap.size, 0, none⟩)) true ty).run Tryd.prog (w.iter s pos) = _ := fun ty => run_next_end w s pos ty hp
      go_wp2
      go_ret
      exact ⟨rfl, (Below.refl _ _).alloc (Nat.le_refl _) _⟩
end Go.Proofs.YthjhbhgfckaklaaDoor.P
end
section
namespace Go.Proofs.YthjhbhgfckaklaaDoor.P
open Go.RowKit Go.Proofs.YthjhbhgfckaklaaDoorW.PrintWords Go.Proofs.YthjhbhgfckaklaaDoorW.PrintLast Go.Proofs.YthjhbhgfckaklaaDoorW.PrintMore
set_option linter.unusedVariables false
set_option linter.unusedSimpArgs false

set_option maxHeartbeats 2000000 in
set_option maxRecDepth 100000 in
theorem validRune_walk (r : Int) (b : Bool) (hb : validRune r = b) (w : World) : Calls Tryd.prog 159 #[.int .i32 r] w fun e w' => e = .returned (.bool b) ∧ w = w' := by
  have HB := Aside0.mk hb
  clear hb
  by_cases a : 0 ≤ r
  · by_cases c : r < 55296
    · have e : b = true := by rw [← HB.out]; exact decide_eq_true (.inl ⟨a, c⟩)
      subst e
      go_enter Tryd.func159, Tryd.ntmps159
      go_wp2
      go_ret
      exact ⟨rfl, rfl⟩
    · by_cases d : 57343 < r
      · by_cases f : r ≤ 1114111
        · have e : b = true := by rw [← HB.out]; exact decide_eq_true (.inr ⟨d, f⟩)
          subst e
          go_enter Tryd.func159, Tryd.ntmps159
          go_wp2
          go_ret
          exact ⟨rfl, rfl⟩
        · have e : b = false := by rw [← HB.out]; exact decide_eq_false (by omega)
          subst e
          go_enter Tryd.func159, Tryd.ntmps159
          go_wp2
          go_ret
          exact ⟨rfl, rfl⟩
      · have e : b = false := by rw [← HB.out]; exact decide_eq_false (by omega)
        subst e
        go_enter Tryd.func159, Tryd.ntmps159
        go_wp2
        go_ret
        exact ⟨rfl, rfl⟩
  · have e : b = false := by rw [← HB.out]; exact decide_eq_false (by omega)
    subst e
    go_enter Tryd.func159, Tryd.ntmps159
    go_wp2
    go_ret
    exact ⟨rfl, rfl⟩

set_option maxHeartbeats 4000000 in
set_option maxRecDepth 100000 in
theorem indexRune_bad (s : ByteArray) (r : Int) (w : World) (h1 : ¬ r < 128) (h2 : (r == 65533) = false) (hv : validRune r = false) :
    Calls Tryd.prog 147 #[.string s, .int .i32 r] w fun e w' => e = .returned (.int .i64 (-1)) ∧ Below w.heap.size w w' := by
  have HV := Aside0.mk hv
  clear hv
  go_enter Tryd.func147, Tryd.ntmps147
  go_wp2_with (go_at_call 159; refine (validRune_walk _ false HV.out _).mono ?_; rintro e w' ⟨rfl, rfl⟩)
  go_ret
  exact ⟨rfl, Below.refl _ _⟩

theorem extract_mem {s : ByteArray} {a e : Nat} {b : UInt8} (h : b ∈ (s.extract a e).data.toList) : b ∈ s.data.toList := mem_extract h

set_option maxHeartbeats 4000000 in
set_option maxRecDepth 100000 in
theorem indexRune_high (s : ByteArray) (r : Int) (w : World) (hs : LowL s) (hsz : s.size ≤ 100000) (h1 : ¬ r < 128) (h2 : (r == 65533) = false) (hv : validRune r = true) :
    Calls Tryd.prog 147 #[.string s, .int .i32 r] w fun e w' => e = .returned (.int .i64 (-1)) ∧ Below w.heap.size w w' := by
  have HV := Aside0.mk hv
  have HS := Aside0.mk hs
  have enc := encode_facts r ((validRune_eq r).trans hv) (by omega)
  clear hv hs
  obtain ⟨e2, e4, eb⟩ := enc
  generalize hq : Utf8.encode r = q at e2 e4 eb
  have HQ := Aside0.mk hq
  have hb := eb (by omega)
  clear eb
  obtain ⟨n, hn⟩ : ∃ n, q.size = n + 1 := ⟨q.size - 1, by omega⟩
  have hn3 : n ≤ 3 := by omega
  have hqn : n < q.size := by omega
  have hb' : 128 ≤ (q[n]'hqn).toNat := by
    have e : q.size - 1 = n := by omega
    simp only [e] at hb
    exact hb
  clear hb e2 e4
  have h0 : (0 : Int) ≤ (n : Int) := by omega
  have hqi : ((n : Int)) < ((n : Int) + 1) := by omega
  by_cases hlen : n < s.size
  · have hlow := HS.out.at n hlen
    have hne : (((s[n]'hlen).toNat : Int) != ((q[n]'hqn).toNat : Int)) = true := by rw [bne_iff_ne]; omega
    have hidx : Lib.indexByte (s.extract (n + 1) s.size).data.toList (((q[n]'hqn).toNat : Int)).toNat.toUInt8 = -1 :=
      indexByte_high _ _ (fun b hb => HS.out b (extract_mem hb)) (by simp; omega)
    have HI := Aside0.mk (fun W => (by have h := strings_IndexByte.same (s.extract (n + 1) s.size) ((q[n]'hqn).toNat : Int) W; rw [hidx] at h; exact h : Calls Tryd.prog 158 #[.string (s.extract (n + 1) s.size), .int .u8 ((q[n]'hqn).toNat : Int)] W fun e w' => e = .returned (.int .i64 (-1)) ∧ w' = W))
    have HNE := Aside0.mk hne
    clear hidx hne
    have hli : ((n : Int)) < (s.size : Int) := by omega
    have hli2 : ((n : Int) + 1) ≤ (s.size : Int) := by omega
    go_enter Tryd.func147, Tryd.ntmps147
    go_wp2_with (go_at_call 159; refine (validRune_walk _ true HV.out _).mono ?_; rintro e w' ⟨rfl, rfl⟩)
    go_step3
    go_wp2
    refine wp_loop_rounds 1 ?_
    rw [rounds_succ]
    go_wp2
    go_step3
    go_wp2
    go_quiet (fail)
    have hne := HNE.out
    go_wp2
    go_quiet ((go_at_call 158; exact (HI.out _).mono (fun _ _ h => ⟨h.1, _, h.2⟩)))
    go_wp2
    rw [Exit.noGoto_ret]
    simp only [Exit.inBlock, Exit.then]
    rw [Exit.noGoto_ret]
    go_ret
    exact ⟨rfl, pw_below_drewN (Below.refl _ _) _⟩
  · have hli : ¬ ((n : Int)) < (s.size : Int) := by omega
    go_enter Tryd.func147, Tryd.ntmps147
    go_wp2_with (go_at_call 159; refine (validRune_walk _ true HV.out _).mono ?_; rintro e w' ⟨rfl, rfl⟩)
    go_step3
    go_wp2
    refine wp_loop_rounds 1 ?_
    rw [rounds_succ]
    go_wp2
    rw [Exit.noGoto_ret]
    go_ret
    exact ⟨rfl, Below.refl _ _⟩
theorem strings_IndexRune.calls (a0 : ByteArray) (a1 r : Int) (w : World) (h : strings_IndexRune.f a0 a1 = some r) :
    Calls Tryd.prog 147 #[.string a0, .int .i32 a1] w fun e w' => e = .returned (.int .i64 r) ∧ Below w.heap.size w w' := by
  unfold strings_IndexRune.f at h
  split at h
  case isFalse => exact absurd h (by simp)
  rename_i hc
  obtain ⟨hl0, hs, h0, h1⟩ := hc
  have hl := lowLB_low hl0
  by_cases a : a1 < 128
  · rw [if_pos a] at h
    obtain rfl := Option.some.inj h
    exact indexRune_low a0 a1 w h0 a
  · rw [if_neg a] at h
    obtain rfl := Option.some.inj h
    by_cases b : a1 = 65533
    · subst b
      exact indexRune_error a0 w hl
    · have b' : (a1 == 65533) = false := by rw [beq_eq_false_iff_ne]; exact b
      cases hv : validRune a1 with
      | true => exact indexRune_high a0 a1 w hl hs a b' hv
      | false => exact indexRune_bad a0 a1 w a b' hv
end Go.Proofs.YthjhbhgfckaklaaDoor.P
end
