/-
  The contracts of strings.IndexByte, and of strings.IndexRune over a text of bytes below 128; nothing that was there changes.
-/
import Derived.Test.YthjhbhgfckaklabDoorBase
import Derived.Lib.Bytealg
import Derived.Laws.Runes
import Derived.Outline
namespace Go.Proofs.YthjhbhgfckaklabDoor.P
open Go.RowKit Go.Proofs.YthjhbhgfckaklabDoorW.PrintWords Go.Proofs.YthjhbhgfckaklabDoorW.PrintLast Go.Proofs.YthjhbhgfckaklabDoorW.PrintMore
set_option linter.unusedVariables false
set_option linter.unusedSimpArgs false

set_option maxRecDepth 100000 in
theorem stringslite_IndexByte.same (s : ByteArray) (c : Int) (w : World) :
    Calls Tryd.prog 95 #[.string s, .int .u8 c] w fun e w' => e = .returned (.int .i64 (Lib.indexByte s.data.toList c.toNat.toUInt8)) ∧ w' = w := by
  go_enter Tryd.func95, Tryd.ntmps95
  go_wp2
  rw [run_callFunc_extern Tryd.func110 (by kernel_rfl) (by kernel_rfl) (by kernel_rfl) (e := Extern.BytealgIndexByte.indexByte) (by kernel_rfl), Lib.run_indexByteString]
  simp only [Result.andThen]
  rw [Oper.upon_value]
  go_wp2
  go_ret
  exact ⟨rfl, rfl⟩
set_option maxRecDepth 100000 in
theorem strings_IndexByte.same (s : ByteArray) (c : Int) (w : World) :
    Calls Tryd.prog 105 #[.string s, .int .u8 c] w fun e w' => e = .returned (.int .i64 (Lib.indexByte s.data.toList c.toNat.toUInt8)) ∧ w' = w := by
  go_enter Tryd.func105, Tryd.ntmps105
  go_wp2_with (go_at_call 95; refine (stringslite_IndexByte.same _ _ _).mono ?_; rintro e w' ⟨rfl, rfl⟩)
  go_ret
  exact ⟨rfl, rfl⟩
-- EXT strings.IndexByte {"rounds": 0, "making": 0}
def strings_IndexByte.f (a0 : ByteArray) (a1 : Int) : Option Int := some (Lib.indexByte a0.data.toList a1.toNat.toUInt8)
theorem strings_IndexByte.calls (a0 : ByteArray) (a1 r : Int) (w : World) (h : strings_IndexByte.f a0 a1 = some r) :
    Calls Tryd.prog 105 #[.string a0, .int .u8 a1] w fun e w' => e = .returned (.int .i64 r) ∧ Drawn0 w w' := by
  obtain rfl := Option.some.inj h
  refine (strings_IndexByte.same a0 a1 w).mono ?_
  rintro e w' ⟨rfl, rfl⟩
  exact ⟨rfl, Drawn0.refl _⟩

/-- All bytes are below 128. -/
def LowL (s : ByteArray) : Prop := ∀ b ∈ s.data.toList, b.toNat < 128
theorem indexByte_high : ∀ (l : List UInt8) (c : UInt8), (∀ b ∈ l, b.toNat < 128) → 128 ≤ c.toNat → Lib.indexByte l c = -1
  | [], _, _, _ => rfl
  | b :: l, c, h, hc => by
    unfold Lib.indexByte
    have h1 : (b == c) = false := by
      rw [beq_eq_false_iff_ne]
      intro e
      have := h b (List.mem_cons_self ..)
      rw [e] at this
      omega
    rw [h1, indexByte_high l c (fun x hx => h x (List.mem_cons_of_mem _ hx)) hc]
    rfl
theorem LowL.at {s : ByteArray} (h : LowL s) (i : Nat) (hi : i < s.size) : (s[i]'hi).toNat < 128 := by
  refine h _ ?_
  have : i < s.data.toList.length := by rw [data_length]; exact hi
  exact List.getElem_mem this
def lowLB (s : ByteArray) : Bool := s.data.toList.all fun b => decide (b.toNat < 128)
theorem lowLB_low {s : ByteArray} (h : lowLB s = true) : LowL s := fun b hb => by
  have := List.all_eq_true.1 h b hb
  simpa using this
-- EXT strings.IndexRune {"rounds": 0, "making": 1}
def strings_IndexRune.f (a0 : ByteArray) (a1 : Int) : Option Int :=
  if lowLB a0 = true ∧ a0.size ≤ 100000 ∧ 0 ≤ a1 ∧ a1 ≤ 2147483647 then some (if a1 < 128 then Lib.indexByte a0.data.toList a1.toNat.toUInt8 else -1) else none

set_option maxHeartbeats 2000000 in
set_option maxRecDepth 100000 in
theorem indexRune_low (s : ByteArray) (r : Int) (w : World) (h0 : 0 ≤ r) (h1 : r < 128) :
    Calls Tryd.prog 90 #[.string s, .int .i32 r] w fun e w' => e = .returned (.int .i64 (Lib.indexByte s.data.toList r.toNat.toUInt8)) ∧ Below w.heap.size w w' := by
  have hm : r % 256 = r := by omega
  have HM := Aside0.mk hm
  clear hm
  go_enter Tryd.func90, Tryd.ntmps90
  go_wp2_with (go_at_call 105; refine (strings_IndexByte.same _ _ _).mono ?_; rintro e w' ⟨rfl, rfl⟩)
  go_ret
  exact ⟨by first | rfl | (simp only [HM.out]; rfl), Below.refl _ _⟩

set_option maxHeartbeats 2000000 in
set_option maxRecDepth 100000 in
theorem indexRune_error (s : ByteArray) (w : World) (hs : LowL s) :
    Calls Tryd.prog 90 #[.string s, .int .i32 65533] w fun e w' => e = .returned (.int .i64 (-1)) ∧ Below w.heap.size w w' := by
  have HS := Aside0.mk hs
  clear hs
  go_enter Tryd.func90, Tryd.ntmps90
  go_wp2
  go_loopw [] (fun w' => ∃ pos : Nat, w' = w.iter s pos) (fun w' => s.size - w'.iterPos w.heap.size)
  case atStart => exact ⟨0, rfl⟩
  case round =>
    obtain ⟨pos, rfl⟩ := hrel
    by_cases hp : pos < s.size
    · have hb := HS.out.at pos hp
      have hnx : ∀ ty, (Instr.next (.pointer (some ⟨w.heap.size, 0, none⟩)) true ty).run Tryd.prog (w.iter s pos) = _ := fun ty => run_next_ascii w s pos ty hp hb
      have hne : (((s[pos]'hp).toNat : Int) == 65533) = false := by rw [beq_eq_false_iff_ne]; omega
      go_wp2
      go_roundw
      case rel => exact ⟨pos + 1, rfl⟩
      case measure => simp; omega
    · have hnx : ∀ ty, (Instr.next (.pointer (some ⟨w.heap.size, 0, none⟩)) true ty).run Tryd.prog (w.iter s pos) = _ := fun ty => run_next_end w s pos ty hp
      go_wp2
      go_ret
      exact ⟨rfl, (Below.refl _ _).alloc (Nat.le_refl _) _⟩
end Go.Proofs.YthjhbhgfckaklabDoor.P
