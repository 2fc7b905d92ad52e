/-
  All entries of a table: slices.Clone, All.
-/
import Derived.Lib.SliceRun
import Derived.Lib.Walk
import Derived.Test.YthjhbhgfckaklaaTabI
namespace Go.Proofs.Ythjhbhgfckaklaa.P
open Go.RowKit Go.Shelf Go.Proofs.YthjhbhgfckaklaaW.PrintWords Go.Proofs.YthjhbhgfckaklaaW.PrintLast Go.Proofs.YthjhbhgfckaklaaW.PrintMore
set_option linter.unusedVariables false
set_option linter.unusedSimpArgs false
set_option maxHeartbeats 4000000 in
set_option maxRecDepth 100000 in
theorem clone_nil (w : World) : Calls Try.prog 56 #[.slice none 0 0] w fun r w' => r = .returned (.slice none 0 0) ∧ Below w.heap.size w w' := by
  have HB := Aside0.mk (Below.refl w.heap.size w)
  have q50 : ∀ (w : World) (a : Option Addr) (n c n' c' : Nat), (binOp .eql 50 (.slice a n c) (.slice none n' c')).run Try.prog w = .ok (.bool a.isNone) w := fun w a n c n' c' => Lib.run_eql_slice_nil w _ _ a n c n' c' Try.underlying50
  have u50 : ∀ w, Sem.run Try.prog (underlying 50) w = .ok (TypeDesc.slice 42) w := run_underlying Try.underlying50
  go_enter Try.func56, Try.ntmps56
  go_wp2
  go_ret
  exact ⟨rfl, HB.out⟩
set_option maxHeartbeats 4000000 in
set_option maxRecDepth 100000 in
theorem clone_some (g cap base : Nat) (l : List En) (hl : okE l) (hn : l.length ≤ 1000) (w : World) (hrow : w.ownsRow base 42 19 (.slice (some ⟨g, 0, none⟩) l.length cap) l.length (flE l)) :
    Calls Try.prog 56 #[.slice (some ⟨g, 0, none⟩) l.length cap] w fun r w' => ∃ v', r = .returned v' ∧ w'.ownsRow w.heap.size 42 19 v' l.length (flE l) ∧ Below w.heap.size w w' := by
  have HB := Aside0.mk (Below.refl w.heap.size w)
  have HR := Aside0.mk hrow
  have HN := Aside0.mk hn
  have HL := Aside0.mk hl
  obtain ⟨i0, hi0, hz0, hz1, hz2⟩ := info_parts info_En
  clear hrow hn hl
  have q50 : ∀ (w : World) (a : Option Addr) (n c n' c' : Nat), (binOp .eql 50 (.slice a n c) (.slice none n' c')).run Try.prog w = .ok (.bool a.isNone) w := fun w a n c n' c' => Lib.run_eql_slice_nil w _ _ a n c n' c' Try.underlying50
  have u50 : ∀ w, Sem.run Try.prog (underlying 50) w = .ok (TypeDesc.slice 42) w := run_underlying Try.underlying50
  go_enter Try.func56, Try.ntmps56
  go_wp2_with (first
    | ((with_reducible refine gate_dst (N := 7) rfl ?_); refine wpList_append_own (w.alloc (.cells #[] 42)) rfl (.tmp 5) (.tmp 6) 50 rfl w.heap.size 42 i0 (.agg (eE noE)) 19 40 Try.underlying50 hi0 hz0 hz1 hz2 rfl (by decide) (.slice (some ⟨w.heap.size, 0, none⟩) 0 0) 0 [] rfl (World.ownsRow_made w #[] 0 (Nat.le_refl _) (Nat.zero_le _) rfl) ⟨g, 0, none⟩ l.length cap (flE l) rfl ?qc1 ?qc2 ?qc3 ?qc4 ?qc5 ?qc6 ?_; (case qc1 => exact flE_len HL.out); (case qc2 => exact fun j u hj => Lib.cell?_alloc_some _ (HR.out.cells (g := g) rfl j u hj)); (case qc3 => exact flE_one l); (case qc4 => have := HN.out; unfold maxLen; omega); (case qc5 => have := HN.out; omega); (case qc6 => simp); intro v' w1 hown hgrow hnil; have HV := Aside0.mk hown; have HB1 := Aside0.mk (((Below.refl _ w).alloc (Nat.le_refl _) _).grown hgrow (by simp) (by intro k hk; simp [Value.ownBlock] at hk; omega)); clear hown hgrow hnil))
  go_ret
  refine ⟨v', rfl, ?_, HB1.out⟩
  have := HV.out
  rw [Nat.zero_add, List.nil_append] at this
  exact this
/-- A slice that reads as the table's own row, and is apart from it. -/
theorem clone_tab (T base : Nat) (st : Int) (sv : Value) (l : List En) (hn : l.length ≤ 1000) (w : World) (ht : Tb w T base st sv l) :
    Calls Try.prog 56 #[sv] w fun r w' => ∃ (A : Option Addr) (cap G : Nat), r = .returned (.slice A l.length cap) ∧ Rd w' 50 A l.length cap G l ∧ G < w'.heap.size ∧ Below w.heap.size w w' := by
  have hlt : 0 < w.heap.size := Nat.lt_of_le_of_lt (Nat.zero_le _) (Array.getElem?_eq_some_iff.1 ht.blk).1
  rcases ht.row.2 with ⟨rfl, h0⟩ | ⟨g, cap, cur, rfl, _⟩
  · refine (clone_nil w).mono ?_
    rintro r w' ⟨rfl, hb⟩
    rw [h0]
    have hl : l = [] := List.length_eq_zero_iff.1 h0
    subst hl
    exact ⟨none, 0, 0, rfl, ⟨rfl, fun w i hi => absurd hi (Nat.not_lt_zero _), fun i e he => by simp at he⟩, Nat.lt_of_lt_of_le hlt hb.size, hb⟩
  · refine (clone_some g cap base l ht.ok hn w ht.row).mono ?_
    rintro r w' ⟨v', rfl, ho, hb⟩
    obtain ⟨A, cap', G, rfl, hrd, hG⟩ := rd_of_own ho ht.ok 50 (fun g n cap i w hi => idx_en g n cap i w hi)
    rcases hG with ⟨_, _, hl⟩ | ⟨cur, hg, _⟩
    · subst hl
      exact ⟨A, cap', 0, rfl, ⟨rfl, fun w i hi => absurd hi (Nat.not_lt_zero _), fun i e he => by simp at he⟩, Nat.lt_of_lt_of_le hlt hb.size, hb⟩
    · exact ⟨A, cap', G, rfl, hrd, (Array.getElem?_eq_some_iff.1 hg).1, hb⟩
set_option maxHeartbeats 4000000 in
set_option maxRecDepth 100000 in
theorem table_All (T base : Nat) (st : Int) (sv : Value) (l : List En) (hn : l.length ≤ 1000) (w : World) (ht : Tb w T base st sv l) :
    Calls Try.prog 31 #[.pointer (some ⟨T, 0, none⟩)] w fun r w' => ∃ (A : Option Addr) (cap G Bs : Nat), r = .returned (.func (.func 67) #[] #[.pointer (some ⟨Bs, 0, none⟩)]) ∧ Boxed w' Bs 50 (.slice A l.length cap) ∧ Rd w' 50 A l.length cap G l ∧ G < w'.heap.size ∧ Below w.heap.size w w' := by
  have HB := Aside0.mk (Below.refl w.heap.size w)
  have h0 : w.cell? ⟨T, 0, none⟩ = some sv := blk_cell ht.blk 0
  have HT := Aside0.mk ht
  have HN := Aside0.mk hn
  clear ht hn
  go_enter Try.func31, Try.ntmps31
  go_wp2_with (first
    | (go_at_call 56; refine (clone_tab T base st sv l HN.out _ HT.out).mono ?_; rintro r w1 ⟨A, cap, G, rfl, hrd, hG, hb⟩; have HRD := Aside0.mk hrd; have HG := Aside0.mk hG; replace HB := Aside0.mk (below_step HB.out hb); clear hrd hG hb h0)
    | (go_at_call 42; refine ((callsIn_wide (n := 9)).1 (values_in 9 A l.length cap w1)).mono ?_; rintro r w2 ⟨rfl, rfl⟩))
  go_ret
  exact ⟨A, cap, G, w1.heap.size, rfl, Boxed.new w1 _ _, rd_blk HRD.out (Below.heap_alloc _ _ _ HG.out), by simp; exact Nat.lt_succ_of_lt HG.out, HB.out.alloc HB.out.size _⟩
end Go.Proofs.Ythjhbhgfckaklaa.P
