/-
  PreflightAsks: the request of a preflight is the document's, and may be, whatever the case.
-/
import Derived.Test.YthjhbhgfckaklaaDoorRows
import Derived.Test.YthjhbhgfckaklaaDoorPU5
import Derived.Test.YthjhbhgfckaklaaDoorM8
import Derived.Test.YthjhbhgfckaklaaDoorM9
import Derived.WalkKit
import Derived.ProofKit
import Derived.OpenShut
import Derived.ShutString
import Derived.ChangeOld
import Derived.Below
import Derived.SizedLaws
import Derived.Lay
import Derived.LaidMore
import Derived.LaidLaws
import Derived.Handed
import Derived.Test.YthjhbhgfckaklaaDoorShaped
import Derived.SevenTiedAt
import Derived.Lib.LaidTab
import Derived.Stop.Joined
import Derived.Stop.LaidErr
import Derived.Test.YthjhbhgfckaklaaDoorTie
import Derived.Test.YthjhbhgfckaklaaDoorCards
namespace Go.Proofs.YthjhbhgfckaklaaDoor.preflightAsks
open Go.ChangeShapes Go.WideShapes Go.ChangeAt Go.RowKit
open Go.ChangeMaps (open_string shut_string)
set_option linter.unusedVariables false
def theLaid : List (String × DataW Unit) := [("math/bits.deBruijn32tab", Rows.laid_math_bits_deBruijn32tab), ("math/bits.deBruijn64tab", Rows.laid_math_bits_deBruijn64tab), ("internal/strconv.uint64pow10", Rows.laid_internal_strconv_uint64pow10)]
theorem own : ownKnob Tryd.prog.godebug = none := by kernel_rfl
theorem laidOut : laidOutB Tryd.prog = true := by kernel_rfl
set_option maxRecDepth 100000 in
theorem lifted (os : Os) (started : os.Started) (H : Type) (enc : TypeId × Value → H) :
  ReturnsInHanded {} Tryd.checked os 5 .any (fun w args => (Rows.preflightAsksSpec.pre enc Tryd.prog Tryd.f5 Rows.preflightAsksRow.domain false w args ∧ laidMetH Tryd.prog theLaid w) ∧ sizedMet enc Tryd.prog Tryd.f5 (OpenSpec.ofChange Rows.preflightAsksSpec) false w args) (Rows.preflightAsksSpec.post enc Tryd.prog Tryd.f5 false true false false) := by
 refine P.wrap_and_shaped (C := Tryd.checked) (X := fun w _ => laidMetH Tryd.prog theLaid w) (fun _ _ _ hh h => h.of_heap hh) own started (by kernel_rfl) Tryd.func5
  (ChangeSpec.witness_shaped (enc := enc) (C := Tryd.checked) (os := os) (X := fun w _ => laidMetH Tryd.prog theLaid w) false (World.laidAll Tryd.prog os theLaid) #[.agg #[.string ByteArray.empty, .string ByteArray.empty, .string ByteArray.empty, .slice none 0 0, .bool false]] 8 rfl (World.shaped_of_ZipB (by kernel_rfl) (by kernel_rfl)) (by kernel_rfl) (by kernel_rfl) (by kernel_rfl) (by rw [MakeChecks.laidMetH_plain _ _ _ (by kernel_rfl)]; exact laidMet_laidAll _ (by kernel_rfl) (by kernel_rfl))) ?_
 intro W base args ds gs before hval0 hW hcnd hsz0 hL0 hshp0 _
 have hsz : (DataW.weightsEach Tryd.prog (Tryd.f5.params.toList ++ Rows.preflightAsksSpec.plain.varTypes Tryd.prog) (ds ++ gs)).all (· ≤ reachBytes) = true := hsz0
 have hval : ∀ (j : Nat) t v, Tryd.f5.params[j]? = some t → args[j]? = some v → Value.okWide Tryd.prog W .any base t v := hval0
 have hW' := hW
 obtain ⟨p, q, hA0, hV, rfl, hfz, hnd⟩ := hW
 have hA : DataW.TrodAll enc Tryd.prog W 0 (fun _ => true) true Tryd.f5.params.toList args.toList ds p := hA0
 rw [Tryd.params5] at hA hval hsz
 obtain ⟨v0, vs0, d0, ds0, p0, q0, hargs, rfl, rfl, h0, r0⟩ := trodAll_cons hA
 obtain ⟨rfl, rfl, rfl⟩ := trodAll_nil r0
 obtain rfl : args = #[v0] := by cases args; simp_all
 obtain ⟨rfl, rfl⟩ := trodVars_none hV
 have k0 := h0
 have lt0 : ∀ x ∈ p0, x.block < W.heap.size := by obtain ⟨m, hm⟩ := k0; exact DataW.trod_lt m _ _ _ hm
 obtain ⟨g0, rfl, _⟩ := okWide_struct Tryd.underlying41 (hval 0 41 v0 rfl rfl)
 obtain ⟨fu0, hf0⟩ := h0
 obtain ⟨s0, hK0, w0⟩ := (P.opens_41 ) _ _ _ hf0
 obtain ⟨A0_3, c0_3, e0, hc0_3, hr0_3⟩ := P.k41_open hK0
 obtain rfl : g0 = #[.string s0.f0, .string s0.f1, .string s0.f2, .slice A0_3 s0.f3.length c0_3, .bool s0.f4] := by cases g0; simpa [Value.cells] using e0
 have hL : laidMet Tryd.prog theLaid W := by
  have z := hL0
  rw [MakeChecks.laidMetH_plain _ _ _ (by kernel_rfl)] at z
  exact z
 have htab : Lib.TabIs Tryd.prog W "internal/strconv.uint64pow10" .u64 Lib.pow10Tab := by
  have z : laidMet Tryd.prog [("internal/strconv.uint64pow10", Lib.tabData .u64 Lib.pow10Tab)] W := laidMet.tail (laidMet.tail hL)
  exact Lib.tabIs_of_head (g := 3) (t := 202) (e := 188) (n := 20) (by kernel_rfl) (by kernel_rfl) (by kernel_rfl) (by kernel_rfl) (by kernel_rfl) (by kernel_rfl) z
 clear hA0 hval0 hsz0 hsz
 obtain ⟨k, h⟩ := Pure.PreflightAsks s0 w0
 refine (P.w17_PreflightAsks.calls k s0.f0 s0.f1 s0.f2 _ _ s0.f3 s0.f4 true W (P.maxis_of hshp0 htab) hr0_3 hc0_3 h).mono fun e W' ⟨he, bel⟩ => ?_
 subst he
 exact ⟨_, rfl, _, _, _, [], _, [], hW', trodAll_mk1 (shut_bool Tryd.underlying4 _), (trodAll_cons_mk (Below.trod laidOut (by kernel_rfl) (of_decide_eq_true (by kernel_rfl)) k0 bel lt0) trodAll_mk0), rfl, bel.frame _, fun h => by cases h⟩
theorem over : Rows.preflightAsksRow.holds Tryd.pinned (OpenSpec.ofChange Rows.preflightAsksSpec) :=
 OpenClaim.holds_of_wide 5 Tryd.f5 rfl rfl rfl rfl rfl rfl rfl ⟨rfl, rfl, rfl, rfl, rfl⟩ rfl rfl rfl rfl rfl (by kernel_rfl) Tryd.func5 (by kernel_rfl)
  (of_decide_eq_true (by kernel_rfl)) (by unfold Func.isWrapper; first | (rw [if_pos (by decide +kernel)]; kernel_rfl) | (rw [if_neg (by decide +kernel)]; exact ⟨rfl, rfl⟩))
  (fun os started H enc _ => lifted os started H enc)
theorem proved : Rows.PreflightAsksSaid := over
theorem card : Rows.PreflightAsksCardSaid :=
 Claim7.holds_tied_plain_at .later [] [.data, .data, .data] true (true, "b474d26df70f9bac921d47fc187245203245ee9f91cf46adfdedc24152550076") false
  over (fun _ h => by cases h) (by kernel_rfl) (fun _ h => by cases h) preflightAsks_row_tie rfl ⟨rfl, rfl⟩ (by kernel_rfl) rfl
  (fun f fn hf hfn => by
   obtain rfl : f = 5 := Option.some.inj ((show Tryd.prog.funcNamed "abatis/abatislaw17.PreflightAsks" = some 5 by kernel_rfl).symm.trans hf) |>.symm
   obtain rfl : fn = Tryd.f5 := (Option.some.inj (Tryd.func5.symm.trans hfn)).symm
   refine ⟨by kernel_rfl, fun j t ht => ?_⟩
   rw [Tryd.params5] at ht
   have hall : ∀ t ∈ [41], Tryd.prog.wantsStandIn t = false := by
    intro t ht
    simp only [List.mem_cons, List.mem_nil_iff, or_false] at ht
    rcases ht with rfl <;> kernel_rfl
   exact hall t (List.mem_of_getElem? (by simpa using ht)))
  (by kernel_rfl)
end Go.Proofs.YthjhbhgfckaklaaDoor.preflightAsks
namespace Go.Proofs.YthjhbhgfckaklaaDoor
theorem preflightAsksCard_holds : Rows.PreflightAsksCardSaid := preflightAsks.card
#print axioms preflightAsksCard_holds
end Go.Proofs.YthjhbhgfckaklaaDoor
