/-
  The contracts of three functions of package text that range over a string's runes or write into a string's bytes: Signs, Lower, Number.
  Each says: where the guard of the function '.f' lets the arguments in, the call returns what '.f' says and nothing that was there has changed.
-/
import Derived.Test.YtcpeecacoblbhaaBase
import Derived.Test.YtcpeecacoblbhaaPA1
import Derived.Lib.RuneCount
import Derived.Laws.RangeAny
namespace Go.Proofs.Ytcpeecacoblbhaa.P
open Go.RowKit Go.Proofs.YtcpeecacoblbhaaW.PrintWords Go.Proofs.YtcpeecacoblbhaaW.PrintLast Go.Proofs.YtcpeecacoblbhaaW.PrintMore
set_option linter.unusedVariables false
set_option linter.unusedSimpArgs false

-- EXT abatis/text.Signs {"rounds": 0, "making": 1}
def text_Signs.f (a0 : ByteArray) : Option Int := if a0.size ≤ 9223372036854775806 then some (Lib.runeCount a0 : Int) else none

theorem iter_below (w : World) (s : ByteArray) (p : Nat) : Below w.heap.size w (w.iter s p) := (Below.refl _ _).alloc (Nat.le_refl _) _

set_option maxHeartbeats 1000000 in
set_option maxRecDepth 100000 in
theorem text_Signs.calls (a0 : ByteArray) (r : Int) (w : World) (h : text_Signs.f a0 = some r) :
    Calls Try.prog 12 #[.string a0] w fun e w' => e = .returned (.int .i64 r) ∧ Below w.heap.size w w' := by
  unfold text_Signs.f at h
  split at h
  case isFalse => exact absurd h (by simp)
  rename_i hs
  obtain rfl := Option.some.inj h
  clear h
  go_enter Try.func12, Try.ntmps12
  go_wp2
  go_loopw [3] (fun n w' => ∃ (pos b c : Nat), w' = w.iter a0 pos ∧ n = .int .i64 c ∧ Aside0 (c + Lib.runeCountFrom a0 b pos = Lib.runeCount a0) ∧ a0.size ≤ pos + b ∧ c ≤ pos) (fun _ w' => a0.size - w'.iterPos w.heap.size)
  case atStart => exact ⟨0, a0.size, 0, rfl, rfl, ⟨by simp [Lib.runeCount]⟩, by omega, by omega⟩
  case round =>
    obtain ⟨pos, b, c, rfl, rfl, hc, hb, hcp⟩ := hrel
    by_cases hp : pos < a0.size
    · have hnx : ∀ ty, (Instr.next (.pointer (some ⟨w.heap.size, 0, none⟩)) true ty).run Try.prog (w.iter a0 pos) = _ := fun ty => run_next_any w a0 pos ty hp
      have hwd := Lib.decode_width_pos a0 pos hp
      have hc1 : (c : Int) ≤ 9223372036854775805 := by omega
      go_wp2
      go_roundw
      case rel =>
        cases b with
        | zero => omega
        | succ b =>
          refine ⟨pos + (Utf8.decode a0 pos).2, b, c + 1, rfl, by go_num, ⟨?_⟩, by omega, by omega⟩
          have := hc.out
          simp only [Lib.runeCountFrom, hp, if_true] at this
          omega
      case measure =>
        simp
        omega
    · have hnx : ∀ ty, (Instr.next (.pointer (some ⟨w.heap.size, 0, none⟩)) true ty).run Try.prog (w.iter a0 pos) = _ := fun ty => run_next_end w a0 pos ty hp
      go_wp2
      go_ret
      have := hc.out
      rw [Lib.runeCountFrom_end a0 b pos hp] at this
      exact ⟨by rw [← this]; simp, iter_below w a0 pos⟩
end Go.Proofs.Ytcpeecacoblbhaa.P
