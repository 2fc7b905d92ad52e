/-
  The contract of text.Token: is a text a token, sign by sign.
-/
import Derived.Test.YthjhbhgfckaklabDoorMTxt
import Derived.Test.YthjhbhgfckaklabDoorPB1
namespace Go.Proofs.YthjhbhgfckaklabDoor.P
open Go.RowKit Go.Proofs.YthjhbhgfckaklabDoorW.PrintWords Go.Proofs.YthjhbhgfckaklabDoorW.PrintLast Go.Proofs.YthjhbhgfckaklabDoorW.PrintMore
set_option linter.unusedVariables false
set_option linter.unusedSimpArgs false

def marksS : ByteArray := ⟨#[33, 35, 36, 37, 38, 39, 42, 43, 45, 46, 94, 95, 96, 124, 126]⟩
def tokenB (c : Int) : Bool := decide ((97 ≤ c ∧ c ≤ 122) ∨ (65 ≤ c ∧ c ≤ 90) ∨ (48 ≤ c ∧ c ≤ 57)) || (if c < 128 then decide (0 ≤ Lib.indexByte marksS.data.toList c.toNat.toUInt8) else false)
theorem token_one (c : Int) (h0 : 0 ≤ c) (h1 : c ≤ 2147483647) : text_Token_1.f c = some (tokenB c) := by
  have hc : strings_ContainsRune.f marksS c = some (if c < 128 then decide (0 ≤ Lib.indexByte marksS.data.toList c.toNat.toUInt8) else false) := by
    unfold strings_ContainsRune.f strings_IndexRune.f
    rw [if_pos ⟨(by decide : lowLB marksS = true), (by decide : marksS.size ≤ 100000), h0, h1⟩]
    by_cases a : c < 128
    · rw [if_pos a, if_pos a]; rfl
    · rw [if_neg a, if_neg a]; rfl
  have hl : text_letter.f c = some (decide ((97 ≤ c ∧ c ≤ 122) ∨ (65 ≤ c ∧ c ≤ 90))) := by
    unfold text_letter.f text_upper.f
    by_cases a : c ≥ 97
    · rw [if_pos a]
      by_cases b : c ≤ 122
      · rw [if_pos b, decide_eq_true (.inl ⟨a, b⟩)]
      · rw [if_neg b, if_pos (by omega)]
        simp only [Option.bind_some]
        rw [decide_eq_false (show ¬ c ≤ 90 by omega), decide_eq_false (by omega)]
    · rw [if_neg a]
      by_cases b : c ≥ 65
      · rw [if_pos b]
        simp only [Option.bind_some]
        congr 1
        rw [decide_eq_decide]
        omega
      · rw [if_neg b]
        simp only [Option.bind_some]
        rw [decide_eq_false (by omega)]
  have hd : text_digit.f c = some (decide (48 ≤ c ∧ c ≤ 57)) := by
    unfold text_digit.f
    by_cases a : c ≥ 48
    · rw [if_pos a]; congr 1; rw [decide_eq_decide]; omega
    · rw [if_neg a, decide_eq_false (by omega)]
  unfold text_Token_1.f
  change ((text_letter.f c).bind fun t102 => if t102 = true then some true else (text_digit.f c).bind fun t103 => if t103 = true then some true else (strings_ContainsRune.f marksS c).bind fun t104 => some t104) = _
  rw [hl, hd, hc]
  simp only [Option.bind_some]
  unfold tokenB
  by_cases a : (97 ≤ c ∧ c ≤ 122) ∨ (65 ≤ c ∧ c ≤ 90)
  · rw [decide_eq_true a, if_pos rfl, decide_eq_true (by omega)]; rfl
  · rw [decide_eq_false a, if_neg (by decide)]
    by_cases b : 48 ≤ c ∧ c ≤ 57
    · rw [decide_eq_true b, if_pos rfl, decide_eq_true (by omega)]; rfl
    · have e : decide ((97 ≤ c ∧ c ≤ 122) ∨ (65 ≤ c ∧ c ≤ 90) ∨ (48 ≤ c ∧ c ≤ 57)) = false := decide_eq_false (by omega)
      rw [decide_eq_false b, if_neg (by decide), e]; rfl
theorem token_pred : RunePred 62 tokenB :=
  ⟨enters_of Tryd.func62 (by kernel_rfl) rfl, fun W c h0 h1 => text_Token_1.calls c (tokenB c) W (token_one c h0 h1)⟩

-- EXT abatis/text.Token {"rounds": 0, "making": 1}
def text_Token.f (a0 : ByteArray) : Option Bool := some (decide (0 < a0.size) && allFrom tokenB a0 a0.size 0)
set_option maxHeartbeats 1000000 in
set_option maxRecDepth 100000 in
theorem text_Token.calls (a0 : ByteArray) (r : Bool) (w : World) (h : text_Token.f a0 = some r) :
    Calls Tryd.prog 40 #[.string a0] w fun e w' => e = .returned (.bool r) ∧ Below w.heap.size w w' := by
  have H := Aside0.mk (Option.some.inj h)
  clear h
  by_cases hz : 0 < a0.size
  · have he : (!a0.toList.isEmpty) = true := by rw [isEmpty_eq, decide_eq_true hz]
    have he2 : a0.toList.isEmpty = false := by simpa using he
    have HZ := Aside0.mk hz
    go_enter Tryd.func40, Tryd.ntmps40
    go_wp2_with (go_at_call 61; refine (text_all.calls _ _ token_pred a0 _).mono ?_; rintro e w1 ⟨rfl, hb⟩)
    go_ret
    exact ⟨by rw [← H.out, decide_eq_true HZ.out]; simp, hb⟩
  · have he : (!a0.toList.isEmpty) = false := by rw [isEmpty_eq, decide_eq_false hz]
    have he2 : a0.toList.isEmpty = true := by simpa using he
    have HZ := Aside0.mk hz
    go_enter Tryd.func40, Tryd.ntmps40
    go_wp2
    go_ret
    exact ⟨by rw [← H.out, decide_eq_false HZ.out]; rfl, Below.refl _ _⟩
end Go.Proofs.YthjhbhgfckaklabDoor.P
