/-
  The contract of csp.Words: a text's pieces between blanks, out of the shelf's contract for strings.FieldsFunc.
-/
import Derived.Test.YthjhbhgfckaklaaDoorBase
import Derived.Test.YthjhbhgfckaklaaDoorShelf
import Derived.Shelf.Abstract
namespace Go.Proofs.YthjhbhgfckaklaaDoor.P
open Go.RowKit Go.Proofs.YthjhbhgfckaklaaDoorW.PrintWords Go.Proofs.YthjhbhgfckaklaaDoorW.PrintLast Go.Proofs.YthjhbhgfckaklaaDoorW.PrintMore
set_option linter.unusedVariables false
set_option linter.unusedSimpArgs false

def blankN (n : Nat) : Bool := n == 32 || n == 9
theorem blankN_int (n : Nat) : blankN n = (decide ((n : Int) = 32) || decide ((n : Int) = 9)) := by
  unfold blankN
  rw [Bool.eq_iff_iff]
  simp
  omega
set_option maxRecDepth 100000 in
theorem words_pred (w : World) : PredAtRunes Tryd.prog 102 #[] blankN w := by
  intro W x hx hb
  show Calls Tryd.prog 102 #[.int .i32 (x : Int)] W _
  have hp := blankN_int x
  by_cases h1 : (x : Int) = 32
  · have e1 : decide ((x : Int) = 32) = true := decide_eq_true h1
    have e2 : ((x : Int) == 32) = true := beq_iff_eq.mpr h1
    rw [e1] at hp
    have HP := Aside0.mk hp
    clear hp h1
    go_enter Tryd.func102, Tryd.ntmps102
    go_wp2
    go_ret
    exact ⟨by rw [HP.out]; rfl, 0, rfl⟩
  · have e1 : decide ((x : Int) = 32) = false := decide_eq_false h1
    have e2 : ((x : Int) == 32) = false := beq_eq_false_iff_ne.mpr h1
    rw [e1] at hp
    have HP := Aside0.mk hp
    clear hp h1
    go_enter Tryd.func102, Tryd.ntmps102
    go_wp2
    go_ret
    exact ⟨by rw [HP.out]; rfl, 0, rfl⟩
-- EXT abatis/csp.Words {"rounds": 0, "making": 1}
def csp_Words.f (a0 : ByteArray) : Option (List ByteArray) := if a0.size ≤ 4294967296 then some (Lib.goFieldsP blankN a0) else none
set_option maxRecDepth 100000 in
theorem csp_Words.calls (a0 : ByteArray) (r : List ByteArray) (w : World) (h : csp_Words.f a0 = some r) :
    Calls Tryd.prog 71 #[.string a0] w fun e w' => ∃ v0_ : Value, e = .returned (v0_) ∧ Kd.R Kd.string 9 w' w.heap.size (fun _ => True) v0_ r ∧ Below w.heap.size w w' := by
  unfold csp_Words.f at h
  split at h
  case isFalse => exact absurd h (by simp)
  rename_i hs
  have H := Aside0.mk (Option.some.inj h)
  clear h
  have eg : ∀ args w, (callFunc 102 args).run Tryd.prog w = .ok (.enter 102 args) w := enters_of Tryd.func102 (by kernel_rfl) rfl
  go_enter Tryd.func71, Tryd.ntmps71
  go_wp2_with (go_at_call 101; refine (Tryd.strings_FieldsFunc 102 #[] eg blankN a0 _ hs (words_pred _)).mono ?_; rintro e w' ⟨A, rfl, hA, ho, hB⟩)
  go_ret
  have hH := H.out
  subst hH
  exact ⟨_, rfl, Kd.R_of_own ho (fun _ _ => trivial), hB⟩
end Go.Proofs.YthjhbhgfckaklaaDoor.P
