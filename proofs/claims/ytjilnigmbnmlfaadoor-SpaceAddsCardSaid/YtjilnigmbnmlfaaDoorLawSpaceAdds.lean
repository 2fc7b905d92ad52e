/-
  SpaceAdds: a prefix that is added is of its space
-/
import Derived.Test.YtjilnigmbnmlfaaDoorRows
import Derived.Test.YtjilnigmbnmlfaaDoorSpaW
import Derived.Test.YtjilnigmbnmlfaaDoorShaped
import Derived.Test.YtjilnigmbnmlfaaDoorSpaQ
import Derived.WalkKit
import Derived.ProofKit
import Derived.OpenShut
import Derived.ShutString
import Derived.ChangeOld
import Derived.Below
import Derived.SizedLaws
import Derived.Lay
import Derived.LaidMore
import Derived.LaidLaws
import Derived.Handed
import Derived.SevenTiedAt
import Derived.Lib.LaidTab
import Derived.Stop.Joined
import Derived.Stop.LaidErr
import Derived.Test.YtjilnigmbnmlfaaDoorTie
import Derived.Test.YtjilnigmbnmlfaaDoorCards
namespace Go.Proofs.YtjilnigmbnmlfaaDoor.spaceAdds
open Go.ChangeShapes Go.WideShapes Go.ChangeAt Go.RowKit
set_option linter.unusedVariables false
def theLaid : List (String × DataW Unit) := [("math/bits.deBruijn32tab", Rows.laid_math_bits_deBruijn32tab), ("math/bits.deBruijn64tab", Rows.laid_math_bits_deBruijn64tab), ("internal/strconv.uint64pow10", Rows.laid_internal_strconv_uint64pow10)]
theorem own : ownKnob Tryd.prog.godebug = none := by kernel_rfl
theorem laidOut : laidOutB Tryd.prog = true := by kernel_rfl
set_option maxRecDepth 100000 in
set_option maxHeartbeats 4000000 in
theorem lifted (os : Os) (started : os.Started) (H : Type) (enc : TypeId × Value → H) :
    ReturnsInHanded {} Tryd.checked os 4 .any (fun w args => (Rows.spaceAddsSpec.pre enc Tryd.prog Tryd.f4 Rows.spaceAddsRow.domain false w args ∧ laidMetH Tryd.prog theLaid w) ∧ sizedMet enc Tryd.prog Tryd.f4 (OpenSpec.ofChange Rows.spaceAddsSpec) false w args) (Rows.spaceAddsSpec.post enc Tryd.prog Tryd.f4 false true false false) := by
  refine P.wrap_and_shaped (C := Tryd.checked) (X := fun w _ => laidMetH Tryd.prog theLaid w) (fun _ _ _ hh h => h.of_heap hh) own started (by kernel_rfl) Tryd.func4
    (ChangeSpec.witness_shaped (enc := enc) (C := Tryd.checked) (os := os) (X := fun w _ => laidMetH Tryd.prog theLaid w) false (World.laidAll Tryd.prog os theLaid) #[.agg (P.eP P.noP), .int .i64 0, .agg (P.eA P.noA)] 8 rfl (World.shaped_of_ZipB (by kernel_rfl) (by kernel_rfl)) (by kernel_rfl) (by kernel_rfl) (by kernel_rfl) (by rw [MakeChecks.laidMetH_plain _ _ _ (by kernel_rfl)]; exact laidMet_laidAll _ (by kernel_rfl) (by kernel_rfl))) ?_
  intro W base args ds gs before hval0 hW hcnd hsz0 hL0 hshp0 _
  have hsz : (DataW.weightsEach Tryd.prog (Tryd.f4.params.toList ++ Rows.spaceAddsSpec.plain.varTypes Tryd.prog) (ds ++ gs)).all (· ≤ reachBytes) = true := hsz0
  have hval : ∀ (j : Nat) t v, Tryd.f4.params[j]? = some t → args[j]? = some v → Value.okWide Tryd.prog W .any base t v := hval0
  have hW' := hW
  obtain ⟨p, q, hA0, hV, rfl, hfz, hnd⟩ := hW
  have hA : DataW.TrodAll enc Tryd.prog W 0 (fun _ => true) true Tryd.f4.params.toList args.toList ds p := hA0
  rw [Tryd.params4] at hA hval hsz
  obtain ⟨v0, vs0, d0, ds0, p0, q0, hargs, rfl, rfl, h0, r0⟩ := trodAll_cons hA
  obtain ⟨v1, vs1, d1, ds1, p1, q1, rfl, rfl, rfl, h1, r1⟩ := trodAll_cons r0
  obtain ⟨v2, vs2, d2, ds2, p2, q2, rfl, rfl, rfl, h2, r2⟩ := trodAll_cons r1
  obtain ⟨rfl, rfl, rfl⟩ := trodAll_nil r2
  obtain rfl : args = #[v0, v1, v2] := by cases args; simp_all
  obtain ⟨rfl, rfl⟩ := trodVars_none hV
  have k0 := h0
  have lt0 : ∀ x ∈ p0, x.block < W.heap.size := by obtain ⟨m, hm⟩ := k0; exact DataW.trod_lt m _ _ _ hm
  have k1 := h1
  have lt1 : ∀ x ∈ p1, x.block < W.heap.size := by obtain ⟨m, hm⟩ := k1; exact DataW.trod_lt m _ _ _ hm
  have k2 := h2
  have lt2 : ∀ x ∈ p2, x.block < W.heap.size := by obtain ⟨m, hm⟩ := k2; exact DataW.trod_lt m _ _ _ hm
  obtain ⟨g0, rfl, _⟩ := okWide_struct Tryd.underlying35 (hval 0 35 v0 rfl rfl)
  obtain ⟨fu0, hf0⟩ := h0
  obtain ⟨a0, e0, hok0⟩ := P.opens_pf _ _ _ hf0
  obtain rfl : g0 = P.eP a0 := by
    cases g0
    exact congrArg _ (by simpa [Value.cells, P.lP] using e0)
  obtain ⟨i1, rfl, rfl, rfl, w1⟩ := open_int Tryd.underlying3 (hval 1 3 v1 rfl rfl) h1
  obtain ⟨g2, rfl, _⟩ := okWide_struct Tryd.underlying28 (hval 2 28 v2 rfl rfl)
  obtain ⟨fu2, hf2⟩ := h2
  obtain ⟨a2, e2, hok2⟩ := P.opens_ad _ _ _ hf2
  obtain rfl : g2 = P.eA a2 := by
    cases g2
    exact congrArg _ (by simpa [Value.cells] using e2)
  have hL : laidMet Tryd.prog theLaid W := by
    have z := hL0
    rw [MakeChecks.laidMetH_plain _ _ _ (by kernel_rfl)] at z
    exact z
  have htab : Lib.TabIs Tryd.prog W "internal/strconv.uint64pow10" .u64 Lib.pow10Tab := by
    have z : laidMet Tryd.prog [("internal/strconv.uint64pow10", Lib.tabData .u64 Lib.pow10Tab)] W := laidMet.tail (laidMet.tail hL)
    exact Lib.tabIs_of_head (g := 1) (t := 132) (e := 125) (n := 20) (by kernel_rfl) (by kernel_rfl) (by kernel_rfl) (by kernel_rfl) (by kernel_rfl) (by kernel_rfl) z
  have u1 : -9223372036854775808 ≤ i1 ∧ i1 ≤ 9223372036854775807 := by have z := w1; unfold Lit.wf at z; simp only [Bool.and_eq_true, decide_eq_true_eq] at z; have z1 : (-9223372036854775808 : Int) ≤ i1 := z.1; have z2 : i1 ≤ 9223372036854775807 := z.2; omega
  clear hA0 hval0 hsz0 hsz
  refine (P.law_Adds a0 hok0 i1 u1.1 u1.2 a2 hok2 W (P.maxis_of hshp0 htab)).mono fun e W' ⟨he, bel⟩ => ?_
  subst he
  exact ⟨_, rfl, _, _, _, [], _, [], hW', trodAll_mk1 (shut_bool Tryd.underlying4 _), (trodAll_cons_mk (Below.trod laidOut (by kernel_rfl) (of_decide_eq_true (by kernel_rfl)) k0 bel lt0) (trodAll_cons_mk (shut_int Tryd.underlying3 w1) (trodAll_cons_mk (Below.trod laidOut (by kernel_rfl) (of_decide_eq_true (by kernel_rfl)) k2 bel lt2) trodAll_mk0))), rfl, bel.frame _, fun h => by cases h⟩
theorem over : Rows.spaceAddsRow.holds Tryd.pinned (OpenSpec.ofChange Rows.spaceAddsSpec) :=
  OpenClaim.holds_of_wide 4 Tryd.f4 rfl rfl rfl rfl rfl rfl rfl ⟨rfl, rfl, rfl, rfl, rfl⟩ rfl rfl rfl rfl rfl (by kernel_rfl) Tryd.func4 (by kernel_rfl)
    (of_decide_eq_true (by kernel_rfl)) (by unfold Func.isWrapper; first | (rw [if_pos (by decide +kernel)]; kernel_rfl) | (rw [if_neg (by decide +kernel)]; exact ⟨rfl, rfl⟩))
    (fun os started H enc _ => lifted os started H enc)
theorem proved : Rows.SpaceAddsSaid := over
/-- The tied card: the row, and what it lists shown to be what the program's own text lays. -/
theorem card : Rows.SpaceAddsCardSaid :=
  Claim7.holds_tied_plain_at .later [] [.data, .data, .data] true (true, "72b8d2288841c0b117850afdb6850d05b7ec74c7cb64528ac213abe5fe94388f") false
    over (fun _ h => by cases h) (by kernel_rfl) (fun _ h => by cases h) spaceAdds_row_tie rfl ⟨rfl, rfl⟩ (by kernel_rfl) rfl
    (fun f fn hf hfn => by
      obtain rfl : f = 4 := Option.some.inj ((show Tryd.prog.funcNamed "abatis/abatislaw07.SpaceAdds" = some 4 by kernel_rfl).symm.trans hf) |>.symm
      obtain rfl : fn = Tryd.f4 := (Option.some.inj (Tryd.func4.symm.trans hfn)).symm
      refine ⟨by kernel_rfl, fun j t ht => ?_⟩
      rw [Tryd.params4] at ht
      have hall : ∀ t ∈ [35, 3, 28], Tryd.prog.wantsStandIn t = false := by
        intro t ht
        simp only [List.mem_cons, List.mem_nil_iff, or_false] at ht
        rcases ht with rfl | rfl | rfl <;> kernel_rfl
      exact hall t (List.mem_of_getElem? (by simpa using ht)))
    (by kernel_rfl)
end Go.Proofs.YtjilnigmbnmlfaaDoor.spaceAdds
namespace Go.Proofs.YtjilnigmbnmlfaaDoor
/-- The tied card, under a short name, for the claim. -/
theorem spaceAddsCard_holds : Rows.SpaceAddsCardSaid := spaceAdds.card
#print axioms spaceAddsCard_holds
end Go.Proofs.YtjilnigmbnmlfaaDoor
