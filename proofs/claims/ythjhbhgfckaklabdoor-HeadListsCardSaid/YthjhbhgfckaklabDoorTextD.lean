/-
  The contracts of text.all, Token and Plain, and of the calls of Go's library under Token: strings.IndexByte, IndexRune and ContainsRune over a text of bytes below 128.
-/
import Derived.Test.YthjhbhgfckaklabDoorBase
import Derived.Test.YthjhbhgfckaklabDoorPA1
import Derived.Lib.RuneCount
import Derived.Laws.RangeAny
import Derived.Lib.OthersKept
import Derived.Lib.Bytealg
import Derived.Laws.Runes
import Derived.Shelf.Abstract
namespace Go.Proofs.YthjhbhgfckaklabDoor.P
open Go.RowKit Go.Proofs.YthjhbhgfckaklabDoorW.PrintWords Go.Proofs.YthjhbhgfckaklabDoorW.PrintLast Go.Proofs.YthjhbhgfckaklabDoorW.PrintMore
set_option linter.unusedVariables false
set_option linter.unusedSimpArgs false

/-- What a function value of runes gives: at every rune and world p of it; nothing that was there changes. -/
def RunePred (g : Nat) (p : Int → Bool) : Prop :=
  (∀ (args : Array Value) (w : World), (callFunc g args).run Tryd.prog w = .ok (.enter g args) w) ∧ ∀ (W : World) (c : Int), 0 ≤ c → c ≤ 2147483647 → Calls Tryd.prog g #[.int .i32 c] W fun e w' => e = .returned (.bool (p c)) ∧ Below W.heap.size W w'

def allFrom (p : Int → Bool) (s : ByteArray) : Nat → Nat → Bool
  | 0, _ => true
  | f + 1, pos => if pos < s.size then (if p (Utf8.decode s pos).1 = true then allFrom p s f (pos + (Utf8.decode s pos).2) else false) else true
theorem allFrom_end (p : Int → Bool) (s : ByteArray) (f pos : Nat) (h : ¬ pos < s.size) : allFrom p s f pos = true := by
  cases f <;> simp [allFrom, h]
theorem allFrom_no (p : Int → Bool) (s : ByteArray) (f pos : Nat) (h : pos < s.size) (hp : p (Utf8.decode s pos).1 = false) : allFrom p s (f + 1) pos = false := by
  simp [allFrom, h, hp]
theorem allFrom_yes (p : Int → Bool) (s : ByteArray) (f pos : Nat) (h : pos < s.size) (hp : p (Utf8.decode s pos).1 = true) : allFrom p s (f + 1) pos = allFrom p s f (pos + (Utf8.decode s pos).2) := by
  simp [allFrom, h, hp]
theorem blk_belowT {w w' : World} (h : Below w.heap.size w w') {k : Nat} {o : Obj} (hk : w.heap[k]? = some o) : w'.heap[k]? = some o := (h.block k (blk_lt hk)).trans hk

set_option maxHeartbeats 2000000 in
set_option maxRecDepth 100000 in
theorem text_all.calls (g : Nat) (p : Int → Bool) (hp : RunePred g p) (a0 : ByteArray) (w : World) :
    Calls Tryd.prog 61 #[.string a0, .func (.func g) #[] #[]] w fun e w' => e = .returned (.bool (allFrom p a0 a0.size 0)) ∧ Below w.heap.size w w' := by
  obtain ⟨heg, hp⟩ := hp
  have HP := Aside0.mk hp
  clear hp
  go_enter Tryd.func61, Tryd.ntmps61
  go_wp2
  go_loopw [] (fun w' => ∃ (pos b : Nat), w'.heap[w.heap.size]? = some (.stringIter a0 pos) ∧ Below w.heap.size w w' ∧ Aside0 (allFrom p a0 b pos = allFrom p a0 a0.size 0) ∧ a0.size ≤ pos + b) (fun w' => a0.size - w'.iterPos w.heap.size)
  case atStart => exact ⟨0, a0.size, World.iter_heap w a0 0, (Below.refl _ _).alloc (Nat.le_refl _) _, ⟨rfl⟩, by omega⟩
  case round =>
    obtain ⟨pos, b, hit, hB, hc, hb⟩ := hrel
    have HI := Aside0.mk hit
    have HB := Aside0.mk hB
    have hsz : w.heap.size < wr.heap.size := blk_lt hit
    clear hB
    by_cases hpos : pos < a0.size
    · obtain ⟨b, rfl⟩ : ∃ b', b = b' + 1 := ⟨b - 1, by omega⟩
      have hnx : ∀ ty, (Instr.next (.pointer (some ⟨w.heap.size, 0, none⟩)) true ty).run Tryd.prog wr = _ := fun ty => Lib.run_next_any_at wr w.heap.size a0 pos ty hit hpos
      clear hit
      have hwd := Lib.decode_width_pos a0 pos hpos
      have hle := decode_le a0 pos
      have HI2 := Aside0.mk (Lib.iterAt_heap wr w.heap.size a0 pos (pos + (Utf8.decode a0 pos).2) HI.out)
      have HB2 := Aside0.mk (Lib.below_iterAt HB.out (k := w.heap.size) (Nat.le_refl _) a0 (pos + (Utf8.decode a0 pos).2))
      go_wp2_with fail
      refine (HP.out _ ((Utf8.decode a0 pos).1 : Int) (by omega) (by omega)).mono ?_
      rintro e w1 ⟨rfl, h1⟩
      have HI3 := Aside0.mk (blk_belowT h1 HI2.out)
      have HB3 := Aside0.mk (below_then HB2.out (by rw [Lib.iterAt_size]; omega) h1)
      clear h1
      cases hx : p (Utf8.decode a0 pos).1 with
      | true =>
        have HC := Aside0.mk (hc.out.symm.trans (allFrom_yes p a0 b pos hpos hx))
        clear hx
        go_wp2
        go_roundw
        case rel => exact ⟨pos + (Utf8.decode a0 pos).2, b, HI3.out, HB3.out, ⟨HC.out.symm⟩, by omega⟩
        case measure =>
          simp only [World.iterPos, HI3.out, HI.out]
          omega
      | false =>
        have HC := Aside0.mk (hc.out.symm.trans (allFrom_no p a0 b pos hpos hx))
        clear hx
        go_wp2
        go_ret
        exact ⟨by rw [HC.out]; rfl, HB3.out⟩
    · have hnx : ∀ ty, (Instr.next (.pointer (some ⟨w.heap.size, 0, none⟩)) true ty).run Tryd.prog wr = _ := fun ty => Lib.run_next_end_at wr w.heap.size a0 pos ty hit hpos
      have HC := Aside0.mk (hc.out.symm.trans (allFrom_end p a0 b pos hpos))
      clear hit
      go_wp2
      go_ret
      exact ⟨by rw [HC.out]; rfl, HB.out⟩

/-! ### Plain -/
def plainB (c : Int) : Bool := decide (32 < c ∧ c ≤ 126)
theorem plain_pred : RunePred 66 plainB := by
  refine ⟨enters_of Tryd.func66 (by kernel_rfl) rfl, ?_⟩
  intro W c h0 h1
  by_cases a : 32 < c
  · by_cases b : c ≤ 126
    · have hq := Aside0.mk (show plainB c = true by simp [plainB, a, b])
      go_enter Tryd.func66, Tryd.ntmps66
      go_wp2
      go_ret
      exact ⟨by rw [hq.out]; rfl, Below.refl _ _⟩
    · have hq := Aside0.mk (show plainB c = false by simp [plainB, b])
      go_enter Tryd.func66, Tryd.ntmps66
      go_wp2
      go_ret
      exact ⟨by rw [hq.out]; rfl, Below.refl _ _⟩
  · have hq := Aside0.mk (show plainB c = false by simp [plainB, a])
    go_enter Tryd.func66, Tryd.ntmps66
    go_wp2
    go_ret
    exact ⟨by rw [hq.out]; rfl, Below.refl _ _⟩

-- EXT abatis/text.Plain {"rounds": 0, "making": 1}
def text_Plain.f (a0 : ByteArray) : Option Bool := some (allFrom plainB a0 a0.size 0)
set_option maxHeartbeats 1000000 in
set_option maxRecDepth 100000 in
theorem text_Plain.calls (a0 : ByteArray) (r : Bool) (w : World) (h : text_Plain.f a0 = some r) :
    Calls Tryd.prog 41 #[.string a0] w fun e w' => e = .returned (.bool r) ∧ Below w.heap.size w w' := by
  have H := Aside0.mk (Option.some.inj h)
  clear h
  go_enter Tryd.func41, Tryd.ntmps41
  go_wp2_with fail
  refine (text_all.calls _ _ plain_pred a0 _).mono ?_
  rintro e w1 ⟨rfl, hb⟩
  go_wp2
  go_ret
  exact ⟨by rw [← H.out]; rfl, hb⟩
end Go.Proofs.YthjhbhgfckaklabDoor.P
