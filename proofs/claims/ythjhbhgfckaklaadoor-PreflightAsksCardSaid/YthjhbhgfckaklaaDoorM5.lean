/-
  Texts of the proof, put together.
-/
import Derived.Test.YthjhbhgfckaklaaDoorM2
import Derived.Test.YthjhbhgfckaklaaDoorM3
import Derived.Test.YthjhbhgfckaklaaDoorSixP
import Derived.Test.YthjhbhgfckaklaaDoorSixQ
section
namespace Go.Proofs.YthjhbhgfckaklaaDoor.P
open Go.RowKit Go.Proofs.YthjhbhgfckaklaaDoorW.PrintWords Go.Proofs.YthjhbhgfckaklaaDoorW.PrintLast Go.Proofs.YthjhbhgfckaklaaDoorW.PrintMore
attribute [local go_sem] max2_int min2_int max_two min_two max_three min_three max_four min_four   -- for this text's walks alone
set_option linter.unusedVariables false
set_option linter.unusedSimpArgs false

/-! ### r13_bracketed: function 149 -/
def r13_bracketed.f (k : Nat) (a0 : ByteArray) : Option (Int × Int × Int × Int × Int × Int × Int × Int × Bool) := if (a0.size : Int) < 2 then (some (0, 0, 0, 0, 0, 0, 0, 0, false)) else (if 0 < (a0.size : Int) then (if (bt a0 0) = 91 then (if 0 ≤ (wrap64 ((a0.size : Int) - 1)) then (if (wrap64 ((a0.size : Int) - 1)) < (a0.size : Int) then (if (bt a0 (wrap64 ((a0.size : Int) - 1))) = 93 then (if 1 ≤ (wrap64 ((a0.size : Int) - 1)) then (if (wrap64 ((a0.size : Int) - 1)) ≤ (a0.size : Int) then ((r03_Parse.f k (a0.extract 1 ((wrap64 ((a0.size : Int) - 1)) : Int).toNat)).bind fun bt102 => (some (bt102.1, bt102.2.1, bt102.2.2.1, bt102.2.2.2.1, bt102.2.2.2.2.1, bt102.2.2.2.2.2.1, bt102.2.2.2.2.2.2.1, bt102.2.2.2.2.2.2.2.1, bt102.2.2.2.2.2.2.2.2))) else (none)) else (none)) else (some (0, 0, 0, 0, 0, 0, 0, 0, false))) else (none)) else (none)) else (some (0, 0, 0, 0, 0, 0, 0, 0, false))) else (none))
set_option maxHeartbeats 8000000 in
set_option maxRecDepth 100000 in
theorem r13_bracketed.calls (k : Nat) (a0 : ByteArray) (r1 : Int) (r2 : Int) (r3 : Int) (r4 : Int) (r5 : Int) (r6 : Int) (r7 : Int) (r8 : Int) (r9 : Bool) (w : World) (h : r13_bracketed.f k a0 = some (r1, r2, r3, r4, r5, r6, r7, r8, r9)) :
  Calls Tryd.prog 149 #[.string a0] w fun e w' => e = .returned (.tuple #[.agg #[.int .u16 r1, .int .u16 r2, .int .u16 r3, .int .u16 r4, .int .u16 r5, .int .u16 r6, .int .u16 r7, .int .u16 r8], .bool r9]) ∧ Below w.heap.size w w' := by
 have hu171 := Tryd.underlying171
 have HB := Aside0.mk (Below.refl w.heap.size w)
 have H := h
 unfold r13_bracketed.f at H
 clear h
 by_cases c2 : (a0.size : Int) < 2
 ·rw [if_pos c2] at H
  have c2b0 : decide ((a0.size : Int) < 2) = true := decide_eq_true c2
  have c2b1 : decide (a0.size < 2) = true := decide_eq_true (by omega)
  clear c2
  simp only [Option.some.injEq, Prod.mk.injEq] at H
  obtain ⟨rfl, rfl, rfl, rfl, rfl, rfl, rfl, rfl, rfl⟩ := H
  go_enter Tryd.func149, Tryd.ntmps149
  go_wp2_with (first | ((with_reducible refine gate_dst (N := 2) rfl ?_); (try (refine gate_guard (by rfl) ?_; dsimp only)); refine box_event ?hg (N := 2) ?hd (cs := #[.int .u16 0, .int .u16 0, .int .u16 0, .int .u16 0, .int .u16 0, .int .u16 0, .int .u16 0, .int .u16 0]) (t := 171) ?hr ?_; (case hd => rfl); (case hg => rfl); (case hr => first | (go_simp; done) | (go_simp; rfl)); intro gb101 hg w3 hbox hb; have BK101 := Aside0.mk (hbox); have GW101 := Aside0.mk ((by rw [hg]; exact (below_size (bel_later HB.out)) : w.heap.size ≤ gb101)); have GE101 := Aside0.mk ((by rw [hg]; exact (below_size (bel_later HB.out)) : w.heap.size ≤ gb101)); replace HB := Aside0.mk (below_step (bel_later HB.out) hb); clear hb hbox hg; have hq1 := fun j => blk_cell BK101.out j; have hq7 := fun j => blk_frozen BK101.out j))
  refine bodyPost_ret (results_ct rfl _ _ gb101 171 #[.int .u16 0, .int .u16 0, .int .u16 0, .int .u16 0, .int .u16 0, .int .u16 0, .int .u16 0, .int .u16 0] (0, 0) _ rfl (by (with_reducible repeat (first | refine blk_drewN ?_ _ | refine blk_drew ?_ | refine blk_alloc ?_ _)); refine blk_put (cs := #[.int .u16 0, .int .u16 0, .int .u16 0, .int .u16 0, .int .u16 0, .int .u16 0, .int .u16 0, .int .u16 0]) ?_ 7 _ rfl; refine blk_put (cs := #[.int .u16 0, .int .u16 0, .int .u16 0, .int .u16 0, .int .u16 0, .int .u16 0, .int .u16 0, .int .u16 0]) ?_ 6 _ rfl; refine blk_put (cs := #[.int .u16 0, .int .u16 0, .int .u16 0, .int .u16 0, .int .u16 0, .int .u16 0, .int .u16 0, .int .u16 0]) ?_ 5 _ rfl; refine blk_put (cs := #[.int .u16 0, .int .u16 0, .int .u16 0, .int .u16 0, .int .u16 0, .int .u16 0, .int .u16 0, .int .u16 0]) ?_ 4 _ rfl; refine blk_put (cs := #[.int .u16 0, .int .u16 0, .int .u16 0, .int .u16 0, .int .u16 0, .int .u16 0, .int .u16 0, .int .u16 0]) ?_ 3 _ rfl; refine blk_put (cs := #[.int .u16 0, .int .u16 0, .int .u16 0, .int .u16 0, .int .u16 0, .int .u16 0, .int .u16 0, .int .u16 0]) ?_ 2 _ rfl; refine blk_put (cs := #[.int .u16 0, .int .u16 0, .int .u16 0, .int .u16 0, .int .u16 0, .int .u16 0, .int .u16 0, .int .u16 0]) ?_ 1 _ rfl; refine blk_put (cs := #[.int .u16 0, .int .u16 0, .int .u16 0, .int .u16 0, .int .u16 0, .int .u16 0, .int .u16 0, .int .u16 0]) ?_ 0 _ rfl; (with_reducible repeat (first | refine blk_drewN ?_ _ | refine blk_drew ?_ | refine blk_alloc ?_ _)); exact BK101.out) Tryd.underlying171 rfl (by kernel_rfl)) rfl ?_
  exact ⟨by first | rfl | (simp [errW_none, errW_some] <;> rfl) | (simp [*, errW_none, errW_some] <;> rfl), by repeat (first | (with_reducible first | exact HB.out | apply below_alloc | apply pw_below_drewN | apply below_drew1 | refine below_set ?_ GE101.out) | exact HB.out)⟩
 rw [if_neg c2] at H
 have c2b0 : decide ((a0.size : Int) < 2) = false := decide_eq_false c2
 have c2b1 : decide (a0.size < 2) = false := decide_eq_false (by omega)
 clear c2
 by_cases c5 : 0 < (a0.size : Int)
 ·rw [if_pos c5] at H
  have c5b0 : decide (0 < (a0.size : Int)) = true := decide_eq_true c5
  have c5b1 : decide (0 < a0.size) = true := decide_eq_true (by omega)
  clear c5
  by_cases c7 : (bt a0 0) = 91
  ·rw [if_pos c7] at H
   have c7b0 : ((bt a0 0) == 91) = true := beq_iff_eq.mpr c7
   have c7b1 : ((bt a0 0) != 91) = false := bne_eq_false_iff_eq.mpr c7
   clear c7
   obtain ⟨ji8, hji8⟩ : ∃ j_ : Int, (wrap64 ((a0.size : Int) - 1)) = j_ := ⟨_, rfl⟩
   replace H : (if 0 ≤ (ji8) then (if (ji8) < (a0.size : Int) then (if (bt a0 (ji8)) = 93 then (if 1 ≤ (ji8) then (if (ji8) ≤ (a0.size : Int) then ((r03_Parse.f k (a0.extract 1 ((ji8) : Int).toNat)).bind fun bt102 => (some (bt102.1, bt102.2.1, bt102.2.2.1, bt102.2.2.2.1, bt102.2.2.2.2.1, bt102.2.2.2.2.2.1, bt102.2.2.2.2.2.2.1, bt102.2.2.2.2.2.2.2.1, bt102.2.2.2.2.2.2.2.2))) else (none)) else (none)) else (some (0, 0, 0, 0, 0, 0, 0, 0, false))) else (none)) else (none)) = some (r1, r2, r3, r4, r5, r6, r7, r8, r9) := by first | (rw [hji8] at H; exact H) | (simp only [hji8] at H ⊢; exact H)
   have hji8w : (IntKind.i64.wrap ((a0.size : Int) - 1)) = ji8 := (i64_w _).trans hji8
   by_cases c9 : 0 ≤ (ji8)
   ·rw [if_pos c9] at H
    have c9b0 : decide (0 ≤ (ji8)) = true := decide_eq_true c9
    clear c9
    by_cases c10 : (ji8) < (a0.size : Int)
    ·rw [if_pos c10] at H
     have c10b0 : decide ((ji8) < (a0.size : Int)) = true := decide_eq_true c10
     clear c10
     by_cases c12 : (bt a0 (ji8)) = 93
     ·rw [if_pos c12] at H
      have c12b0 : ((bt a0 (ji8)) == 93) = true := beq_iff_eq.mpr c12
      have c12b1 : ((bt a0 (ji8)) != 93) = false := bne_eq_false_iff_eq.mpr c12
      clear c12
      by_cases c13 : 1 ≤ (ji8)
      ·rw [if_pos c13] at H
       have c13b0 := eq_true c13
       have c13b1 : decide (1 ≤ (ji8)) = true := decide_eq_true c13
       clear c13
       by_cases c14 : (ji8) ≤ (a0.size : Int)
       ·rw [if_pos c14] at H
        have c14b0 := eq_true c14
        have c14b1 : decide ((ji8) ≤ (a0.size : Int)) = true := decide_eq_true c14
        clear c14
        replace H := Option.bind_eq_some_iff.mp H
        obtain ⟨⟨t102, t103, t104, t105, t106, t107, t108, t109, t110⟩, A150, H⟩ := H
        try dsimp only at H
        have A15 := Aside0.mk A150
        clear A150
        simp only [Option.some.injEq, Prod.mk.injEq] at H
        obtain ⟨rfl, rfl, rfl, rfl, rfl, rfl, rfl, rfl, rfl⟩ := H
        go_enter Tryd.func149, Tryd.ntmps149
        go_wp2_with (first | ((with_reducible refine gate_dst (N := 2) rfl ?_); (try (refine gate_guard (by rfl) ?_; dsimp only)); refine box_event ?hg (N := 2) ?hd (cs := #[.int .u16 0, .int .u16 0, .int .u16 0, .int .u16 0, .int .u16 0, .int .u16 0, .int .u16 0, .int .u16 0]) (t := 171) ?hr ?_; (case hd => rfl); (case hg => rfl); (case hr => first | (go_simp; done) | (go_simp; rfl)); intro gb101 hg w16 hbox hb; have BK101 := Aside0.mk (hbox); have GW101 := Aside0.mk ((by rw [hg]; exact (below_size (bel_later HB.out)) : w.heap.size ≤ gb101)); have GE101 := Aside0.mk ((by rw [hg]; exact (below_size (bel_later HB.out)) : w.heap.size ≤ gb101)); replace HB := Aside0.mk (below_step (bel_later HB.out) hb); clear hb hbox hg; have p6 : 0 ≤ (0 : Int) := (by omega); have q6 : 0 < a0.size := (by have : (0 : Int) < (a0.size : Int) := of_decide_eq_true (by first | (with_reducible assumption) | assumption); omega); have hx6 : ∀ h : 0 < a0.size, ((a0[0]'h).toNat : Int) = bt a0 0 := bt_at a0 0; clear p6; have qi6 : (0 < (a0.size : Int)) = True := eq_true (of_decide_eq_true (by first | (with_reducible assumption) | assumption)); replace q6 := eq_true q6; have p11 : 0 ≤ ((ji8) : Int) := of_decide_eq_true (by first | (with_reducible assumption) | assumption); have q11 : (ji8) < (a0.size : Int) := of_decide_eq_true (by first | (with_reducible assumption) | assumption); have hx11 := bt_at a0 (ji8); replace p11 := eq_true p11; replace q11 := eq_true q11) | ((with_reducible refine gate_callee (f := 160) rfl ?_); refine goesL_ (some 26) rfl rfl Tryd.func160 (by kernel_rfl) rfl #[.string (a0.extract 1 ((ji8) : Int).toNat)] rfl (by (try simp only [List.map_toArray, List.map_cons, List.map_nil]); first | done | (simp only [hji8]; rfl) | rfl | (simp only [List.length_drop, List.length_take]; rfl)) ?_; (with_reducible refine (r03_Parse.calls k (a0.extract 1 ((ji8) : Int).toNat) t102 t103 t104 t105 t106 t107 t108 t109 t110 _ A15.out).mono ?_); rintro e w17 ⟨rfl, hb⟩; refine ⟨_, rfl, ?_⟩; replace BK101 := Aside0.mk (blk_below (blk_later BK101.out) hb); replace HB := Aside0.mk (below_step (by repeat (first | (with_reducible first | exact HB.out | apply below_alloc | apply pw_below_drewN | apply below_drew1 | refine below_set ?_ GE101.out) | exact HB.out)) hb); (try clear hb); (try clear hb2); (try clear hk); (try clear hi); have hq2 := fun j => blk_cell BK101.out j; have hq8 := fun j => blk_frozen BK101.out j))
        refine bodyPost_ret (results_ct rfl _ _ gb101 171 #[.int .u16 t102, .int .u16 t103, .int .u16 t104, .int .u16 t105, .int .u16 t106, .int .u16 t107, .int .u16 t108, .int .u16 t109] (0, 0) _ rfl (by (with_reducible repeat (first | refine blk_drewN ?_ _ | refine blk_drew ?_ | refine blk_alloc ?_ _)); refine blk_put (cs := #[.int .u16 t102, .int .u16 t103, .int .u16 t104, .int .u16 t105, .int .u16 t106, .int .u16 t107, .int .u16 t108, .int .u16 0]) ?_ 7 _ rfl; refine blk_put (cs := #[.int .u16 t102, .int .u16 t103, .int .u16 t104, .int .u16 t105, .int .u16 t106, .int .u16 t107, .int .u16 0, .int .u16 0]) ?_ 6 _ rfl; refine blk_put (cs := #[.int .u16 t102, .int .u16 t103, .int .u16 t104, .int .u16 t105, .int .u16 t106, .int .u16 0, .int .u16 0, .int .u16 0]) ?_ 5 _ rfl; refine blk_put (cs := #[.int .u16 t102, .int .u16 t103, .int .u16 t104, .int .u16 t105, .int .u16 0, .int .u16 0, .int .u16 0, .int .u16 0]) ?_ 4 _ rfl; refine blk_put (cs := #[.int .u16 t102, .int .u16 t103, .int .u16 t104, .int .u16 0, .int .u16 0, .int .u16 0, .int .u16 0, .int .u16 0]) ?_ 3 _ rfl; refine blk_put (cs := #[.int .u16 t102, .int .u16 t103, .int .u16 0, .int .u16 0, .int .u16 0, .int .u16 0, .int .u16 0, .int .u16 0]) ?_ 2 _ rfl; refine blk_put (cs := #[.int .u16 t102, .int .u16 0, .int .u16 0, .int .u16 0, .int .u16 0, .int .u16 0, .int .u16 0, .int .u16 0]) ?_ 1 _ rfl; refine blk_put (cs := #[.int .u16 0, .int .u16 0, .int .u16 0, .int .u16 0, .int .u16 0, .int .u16 0, .int .u16 0, .int .u16 0]) ?_ 0 _ rfl; (with_reducible repeat (first | refine blk_drewN ?_ _ | refine blk_drew ?_ | refine blk_alloc ?_ _)); exact BK101.out) Tryd.underlying171 rfl (by kernel_rfl)) rfl ?_
        exact ⟨by first | rfl | (simp [errW_none, errW_some] <;> rfl) | (simp only [← hji8]; first | rfl | (simp [errW_none, errW_some] <;> rfl)) | (simp [*, errW_none, errW_some] <;> rfl), by repeat (first | (with_reducible first | exact HB.out | apply below_alloc | apply pw_below_drewN | apply below_drew1 | refine below_set ?_ GE101.out) | exact HB.out)⟩
       rw [if_neg c14] at H
       exact absurd H (by simp)
      rw [if_neg c13] at H
      exact absurd H (by simp)
     rw [if_neg c12] at H
     have c12b0 : ((bt a0 (ji8)) == 93) = false := beq_eq_false_iff_ne.mpr c12
     have c12b1 : ((bt a0 (ji8)) != 93) = true := bne_iff_ne.mpr c12
     simp only [Option.some.injEq, Prod.mk.injEq] at H
     obtain ⟨rfl, rfl, rfl, rfl, rfl, rfl, rfl, rfl, rfl⟩ := H
     go_enter Tryd.func149, Tryd.ntmps149
     go_wp2_with (first | ((with_reducible refine gate_dst (N := 2) rfl ?_); (try (refine gate_guard (by rfl) ?_; dsimp only)); refine box_event ?hg (N := 2) ?hd (cs := #[.int .u16 0, .int .u16 0, .int .u16 0, .int .u16 0, .int .u16 0, .int .u16 0, .int .u16 0, .int .u16 0]) (t := 171) ?hr ?_; (case hd => rfl); (case hg => rfl); (case hr => first | (go_simp; done) | (go_simp; rfl)); intro gb101 hg w19 hbox hb; have BK101 := Aside0.mk (hbox); have GW101 := Aside0.mk ((by rw [hg]; exact (below_size (bel_later HB.out)) : w.heap.size ≤ gb101)); have GE101 := Aside0.mk ((by rw [hg]; exact (below_size (bel_later HB.out)) : w.heap.size ≤ gb101)); replace HB := Aside0.mk (below_step (bel_later HB.out) hb); clear hb hbox hg; have p6 : 0 ≤ (0 : Int) := (by omega); have q6 : 0 < a0.size := (by have : (0 : Int) < (a0.size : Int) := of_decide_eq_true (by first | (with_reducible assumption) | assumption); omega); have hx6 : ∀ h : 0 < a0.size, ((a0[0]'h).toNat : Int) = bt a0 0 := bt_at a0 0; clear p6; have qi6 : (0 < (a0.size : Int)) = True := eq_true (of_decide_eq_true (by first | (with_reducible assumption) | assumption)); replace q6 := eq_true q6; have p11 : 0 ≤ ((ji8) : Int) := of_decide_eq_true (by first | (with_reducible assumption) | assumption); have q11 : (ji8) < (a0.size : Int) := of_decide_eq_true (by first | (with_reducible assumption) | assumption); have hx11 := bt_at a0 (ji8); replace p11 := eq_true p11; replace q11 := eq_true q11; have hq3 := fun j => blk_cell BK101.out j; have hq9 := fun j => blk_frozen BK101.out j))
     refine bodyPost_ret (results_ct rfl _ _ gb101 171 #[.int .u16 0, .int .u16 0, .int .u16 0, .int .u16 0, .int .u16 0, .int .u16 0, .int .u16 0, .int .u16 0] (0, 0) _ rfl (by (with_reducible repeat (first | refine blk_drewN ?_ _ | refine blk_drew ?_ | refine blk_alloc ?_ _)); refine blk_put (cs := #[.int .u16 0, .int .u16 0, .int .u16 0, .int .u16 0, .int .u16 0, .int .u16 0, .int .u16 0, .int .u16 0]) ?_ 7 _ rfl; refine blk_put (cs := #[.int .u16 0, .int .u16 0, .int .u16 0, .int .u16 0, .int .u16 0, .int .u16 0, .int .u16 0, .int .u16 0]) ?_ 6 _ rfl; refine blk_put (cs := #[.int .u16 0, .int .u16 0, .int .u16 0, .int .u16 0, .int .u16 0, .int .u16 0, .int .u16 0, .int .u16 0]) ?_ 5 _ rfl; refine blk_put (cs := #[.int .u16 0, .int .u16 0, .int .u16 0, .int .u16 0, .int .u16 0, .int .u16 0, .int .u16 0, .int .u16 0]) ?_ 4 _ rfl; refine blk_put (cs := #[.int .u16 0, .int .u16 0, .int .u16 0, .int .u16 0, .int .u16 0, .int .u16 0, .int .u16 0, .int .u16 0]) ?_ 3 _ rfl; refine blk_put (cs := #[.int .u16 0, .int .u16 0, .int .u16 0, .int .u16 0, .int .u16 0, .int .u16 0, .int .u16 0, .int .u16 0]) ?_ 2 _ rfl; refine blk_put (cs := #[.int .u16 0, .int .u16 0, .int .u16 0, .int .u16 0, .int .u16 0, .int .u16 0, .int .u16 0, .int .u16 0]) ?_ 1 _ rfl; refine blk_put (cs := #[.int .u16 0, .int .u16 0, .int .u16 0, .int .u16 0, .int .u16 0, .int .u16 0, .int .u16 0, .int .u16 0]) ?_ 0 _ rfl; (with_reducible repeat (first | refine blk_drewN ?_ _ | refine blk_drew ?_ | refine blk_alloc ?_ _)); exact BK101.out) Tryd.underlying171 rfl (by kernel_rfl)) rfl ?_
     exact ⟨by first | rfl | (simp [errW_none, errW_some] <;> rfl) | (simp only [← hji8]; first | rfl | (simp [errW_none, errW_some] <;> rfl)) | (simp [*, errW_none, errW_some] <;> rfl), by repeat (first | (with_reducible first | exact HB.out | apply below_alloc | apply pw_below_drewN | apply below_drew1 | refine below_set ?_ GE101.out) | exact HB.out)⟩
    rw [if_neg c10] at H
    exact absurd H (by simp)
   rw [if_neg c9] at H
   exact absurd H (by simp)
  rw [if_neg c7] at H
  have c7b0 : ((bt a0 0) == 91) = false := beq_eq_false_iff_ne.mpr c7
  have c7b1 : ((bt a0 0) != 91) = true := bne_iff_ne.mpr c7
  simp only [Option.some.injEq, Prod.mk.injEq] at H
  obtain ⟨rfl, rfl, rfl, rfl, rfl, rfl, rfl, rfl, rfl⟩ := H
  go_enter Tryd.func149, Tryd.ntmps149
  go_wp2_with (first | ((with_reducible refine gate_dst (N := 2) rfl ?_); (try (refine gate_guard (by rfl) ?_; dsimp only)); refine box_event ?hg (N := 2) ?hd (cs := #[.int .u16 0, .int .u16 0, .int .u16 0, .int .u16 0, .int .u16 0, .int .u16 0, .int .u16 0, .int .u16 0]) (t := 171) ?hr ?_; (case hd => rfl); (case hg => rfl); (case hr => first | (go_simp; done) | (go_simp; rfl)); intro gb101 hg w21 hbox hb; have BK101 := Aside0.mk (hbox); have GW101 := Aside0.mk ((by rw [hg]; exact (below_size (bel_later HB.out)) : w.heap.size ≤ gb101)); have GE101 := Aside0.mk ((by rw [hg]; exact (below_size (bel_later HB.out)) : w.heap.size ≤ gb101)); replace HB := Aside0.mk (below_step (bel_later HB.out) hb); clear hb hbox hg; have p6 : 0 ≤ (0 : Int) := (by omega); have q6 : 0 < a0.size := (by have : (0 : Int) < (a0.size : Int) := of_decide_eq_true (by first | (with_reducible assumption) | assumption); omega); have hx6 : ∀ h : 0 < a0.size, ((a0[0]'h).toNat : Int) = bt a0 0 := bt_at a0 0; clear p6; have qi6 : (0 < (a0.size : Int)) = True := eq_true (of_decide_eq_true (by first | (with_reducible assumption) | assumption)); replace q6 := eq_true q6; have hq4 := fun j => blk_cell BK101.out j; have hq10 := fun j => blk_frozen BK101.out j))
  refine bodyPost_ret (results_ct rfl _ _ gb101 171 #[.int .u16 0, .int .u16 0, .int .u16 0, .int .u16 0, .int .u16 0, .int .u16 0, .int .u16 0, .int .u16 0] (0, 0) _ rfl (by (with_reducible repeat (first | refine blk_drewN ?_ _ | refine blk_drew ?_ | refine blk_alloc ?_ _)); refine blk_put (cs := #[.int .u16 0, .int .u16 0, .int .u16 0, .int .u16 0, .int .u16 0, .int .u16 0, .int .u16 0, .int .u16 0]) ?_ 7 _ rfl; refine blk_put (cs := #[.int .u16 0, .int .u16 0, .int .u16 0, .int .u16 0, .int .u16 0, .int .u16 0, .int .u16 0, .int .u16 0]) ?_ 6 _ rfl; refine blk_put (cs := #[.int .u16 0, .int .u16 0, .int .u16 0, .int .u16 0, .int .u16 0, .int .u16 0, .int .u16 0, .int .u16 0]) ?_ 5 _ rfl; refine blk_put (cs := #[.int .u16 0, .int .u16 0, .int .u16 0, .int .u16 0, .int .u16 0, .int .u16 0, .int .u16 0, .int .u16 0]) ?_ 4 _ rfl; refine blk_put (cs := #[.int .u16 0, .int .u16 0, .int .u16 0, .int .u16 0, .int .u16 0, .int .u16 0, .int .u16 0, .int .u16 0]) ?_ 3 _ rfl; refine blk_put (cs := #[.int .u16 0, .int .u16 0, .int .u16 0, .int .u16 0, .int .u16 0, .int .u16 0, .int .u16 0, .int .u16 0]) ?_ 2 _ rfl; refine blk_put (cs := #[.int .u16 0, .int .u16 0, .int .u16 0, .int .u16 0, .int .u16 0, .int .u16 0, .int .u16 0, .int .u16 0]) ?_ 1 _ rfl; refine blk_put (cs := #[.int .u16 0, .int .u16 0, .int .u16 0, .int .u16 0, .int .u16 0, .int .u16 0, .int .u16 0, .int .u16 0]) ?_ 0 _ rfl; (with_reducible repeat (first | refine blk_drewN ?_ _ | refine blk_drew ?_ | refine blk_alloc ?_ _)); exact BK101.out) Tryd.underlying171 rfl (by kernel_rfl)) rfl ?_
  exact ⟨by first | rfl | (simp [errW_none, errW_some] <;> rfl) | (simp [*, errW_none, errW_some] <;> rfl), by repeat (first | (with_reducible first | exact HB.out | apply below_alloc | apply pw_below_drewN | apply below_drew1 | refine below_set ?_ GE101.out) | exact HB.out)⟩
 rw [if_neg c5] at H
 exact absurd H (by simp)

/-! ### r13_Host: function 134 -/
def r13_Host.l0 : Nat → ByteArray → Int → Option (ByteArray × Bool)
 | 0, _, _ => none
 | k + 1, x0, x6 => if x6 < (x0.size : Int) then (if 0 ≤ x6 then (if (bt x0 x6) ≥ 97 then (if ((bt x0 x6) ≤ 122) then (r13_Host.l0 k x0 (wrap64 (x6 + 1))) else (if (bt x0 x6) ≥ 48 then (if ((bt x0 x6) ≤ 57) then (r13_Host.l0 k x0 (wrap64 (x6 + 1))) else (if (bt x0 x6) = 45 then (r13_Host.l0 k x0 (wrap64 (x6 + 1))) else (if (bt x0 x6) = 95 then (r13_Host.l0 k x0 (wrap64 (x6 + 1))) else (if (bt x0 x6) = 46 then (r13_Host.l0 k x0 (wrap64 (x6 + 1))) else (some ((⟨#[]⟩ : ByteArray), false)))))) else (if (bt x0 x6) = 45 then (r13_Host.l0 k x0 (wrap64 (x6 + 1))) else (if (bt x0 x6) = 95 then (r13_Host.l0 k x0 (wrap64 (x6 + 1))) else (if (bt x0 x6) = 46 then (r13_Host.l0 k x0 (wrap64 (x6 + 1))) else (some ((⟨#[]⟩ : ByteArray), false))))))) else (if (bt x0 x6) ≥ 48 then (if ((bt x0 x6) ≤ 57) then (r13_Host.l0 k x0 (wrap64 (x6 + 1))) else (if (bt x0 x6) = 45 then (r13_Host.l0 k x0 (wrap64 (x6 + 1))) else (if (bt x0 x6) = 95 then (r13_Host.l0 k x0 (wrap64 (x6 + 1))) else (if (bt x0 x6) = 46 then (r13_Host.l0 k x0 (wrap64 (x6 + 1))) else (some ((⟨#[]⟩ : ByteArray), false)))))) else (if (bt x0 x6) = 45 then (r13_Host.l0 k x0 (wrap64 (x6 + 1))) else (if (bt x0 x6) = 95 then (r13_Host.l0 k x0 (wrap64 (x6 + 1))) else (if (bt x0 x6) = 46 then (r13_Host.l0 k x0 (wrap64 (x6 + 1))) else (some ((⟨#[]⟩ : ByteArray), false))))))) else (none)) else ((r02_Loose.f k x0).bind fun bt123 => (if bt123.2 = 2 then ((r02_Print.f k bt123.1).bind fun t125 => (some (t125, true))) else ((r08_May.f k x0).bind fun t126 => (if bt123.2 = 0 then (if t126 = true then (if x0.toList = ([] : List UInt8) then (some ((⟨#[]⟩ : ByteArray), false)) else (some (x0, true))) else (some ((⟨#[]⟩ : ByteArray), false))) else (some ((⟨#[]⟩ : ByteArray), false))))))
def r13_Host.f (k : Nat) (a0 : ByteArray) : Option (ByteArray × Bool) := (r13_bracketed.f k a0).bind fun bt111 => (if bt111.2.2.2.2.2.2.2.2 = true then ((r03_Print.f k bt111.1 bt111.2.1 bt111.2.2.1 bt111.2.2.2.1 bt111.2.2.2.2.1 bt111.2.2.2.2.2.1 bt111.2.2.2.2.2.2.1 bt111.2.2.2.2.2.2.2.1).bind fun t121 => (if 1 + t121.size ≤ 9223372036854775807 then (if ((⟨#[91]⟩ : ByteArray) ++ t121).size + 1 ≤ 9223372036854775807 then (some (((⟨#[91]⟩ : ByteArray) ++ t121) ++ (⟨#[93]⟩ : ByteArray), true)) else (none)) else (none))) else ((r01_Lower.f k a0).bind fun t122 => (r13_Host.l0 k t122 0)))
set_option maxHeartbeats 8000000 in
set_option maxRecDepth 100000 in
theorem r13_Host.calls (k : Nat) (a0 : ByteArray) (r1 : ByteArray) (r2 : Bool) (w : World) (h : r13_Host.f k a0 = some (r1, r2)) :
  Calls Tryd.prog 134 #[.string a0] w fun e w' => e = .returned (.tuple #[.string r1, .bool r2]) ∧ Below w.heap.size w w' := by
 have hu171 := Tryd.underlying171
 have HB := Aside0.mk (Below.refl w.heap.size w)
 have H := h
 unfold r13_Host.f at H
 clear h
 replace H := Option.bind_eq_some_iff.mp H
 obtain ⟨⟨t111, t112, t113, t114, t115, t116, t117, t118, t119⟩, A20, H⟩ := H
 try dsimp only at H
 have A2 := Aside0.mk A20
 clear A20
 by_cases c3 : t119 = true
 ·subst c3
  have H1 : ((r03_Print.f k t111 t112 t113 t114 t115 t116 t117 t118).bind fun t121 => (if 1 + t121.size ≤ 9223372036854775807 then (if ((⟨#[91]⟩ : ByteArray) ++ t121).size + 1 ≤ 9223372036854775807 then (some (((⟨#[91]⟩ : ByteArray) ++ t121) ++ (⟨#[93]⟩ : ByteArray), true)) else (none)) else (none))) = some (r1, r2) := by rw [if_pos rfl] at H; exact H
  clear H
  have H := H1
  clear H1
  replace H := Option.bind_eq_some_iff.mp H
  obtain ⟨t121, A40, H⟩ := H
  try dsimp only at H
  have A4 := Aside0.mk A40
  clear A40
  by_cases c5 : 1 + t121.size ≤ 9223372036854775807
  ·rw [if_pos c5] at H
   have c5b0 := eq_true c5
   have c5b1 : decide (1 + t121.size ≤ 9223372036854775807) = true := decide_eq_true c5
   try have c5b2 : (9223372036854775807 < 1 + t121.size) = False := eq_false (Nat.not_lt.2 c5)
   by_cases c6 : ((⟨#[91]⟩ : ByteArray) ++ t121).size + 1 ≤ 9223372036854775807
   ·rw [if_pos c6] at H
    have c6b0 := eq_true c6
    have c6b1 : decide (((⟨#[91]⟩ : ByteArray) ++ t121).size + 1 ≤ 9223372036854775807) = true := decide_eq_true c6
    try have c6b2 : (9223372036854775807 < ((⟨#[91]⟩ : ByteArray) ++ t121).size + 1) = False := eq_false (Nat.not_lt.2 c6)
    try (have c6b4 := c6b2; simp only [ByteArray.size_append, show (⟨#[91]⟩ : ByteArray).size = 1 from rfl] at c6b4)
    simp only [Option.some.injEq, Prod.mk.injEq] at H
    obtain ⟨rfl, rfl⟩ := H
    go_enter Tryd.func134, Tryd.ntmps134
    go_wp2_with (first | ((with_reducible refine gate_callee (f := 149) rfl ?_); refine goesL_ (some 13) rfl rfl Tryd.func149 (by kernel_rfl) rfl #[.string a0] rfl (by (try simp only [List.map_toArray, List.map_cons, List.map_nil]); first | done | rfl) ?_; (with_reducible refine (r13_bracketed.calls k a0 t111 t112 t113 t114 t115 t116 t117 t118 true _ A2.out).mono ?_); rintro e w7 ⟨rfl, hb⟩; refine ⟨_, rfl, ?_⟩; replace HB := Aside0.mk (below_step (bel_later HB.out) hb); (try clear hb); (try clear hb2); (try clear hk); (try clear hi)) | ((with_reducible refine gate_dst (N := 4) rfl ?_); refine box_event ?hg (N := 4) ?hd (cs := #[.int .u16 0, .int .u16 0, .int .u16 0, .int .u16 0, .int .u16 0, .int .u16 0, .int .u16 0, .int .u16 0]) (t := 171) ?hr ?_; (case hd => rfl); (case hg => rfl); (case hr => first | (go_simp; done) | (go_simp; rfl)); intro gb120 hg w8 hbox hb; have BK120 := Aside0.mk (hbox); have GW120 := Aside0.mk ((by rw [hg]; exact (below_size (bel_later HB.out)) : w.heap.size ≤ gb120)); have GE120 := Aside0.mk ((by rw [hg]; exact (below_size (bel_later HB.out)) : w.heap.size ≤ gb120)); replace HB := Aside0.mk (below_step (bel_later HB.out) hb); clear hb hbox hg; have hq5 := fun j => blk_cell BK120.out j; have hq11 := fun j => blk_frozen BK120.out j) | ((with_reducible refine gate_callee (f := 150) rfl ?_); refine goesL_ (some 18) rfl rfl Tryd.func150 (by kernel_rfl) rfl #[.agg #[.int .u16 t111, .int .u16 t112, .int .u16 t113, .int .u16 t114, .int .u16 t115, .int .u16 t116, .int .u16 t117, .int .u16 t118]] rfl (by (try simp only [List.map_toArray, List.map_cons, List.map_nil]); first | done | rfl) ?_; (with_reducible refine (r03_Print.calls k t111 t112 t113 t114 t115 t116 t117 t118 t121 _ A4.out).mono ?_); rintro e w10 ⟨rfl, hb⟩; refine ⟨_, rfl, ?_⟩; replace BK120 := Aside0.mk (blk_below (g := gb120) (o := .cells #[.int .u16 t111, .int .u16 t112, .int .u16 t113, .int .u16 t114, .int .u16 t115, .int .u16 t116, .int .u16 t117, .int .u16 t118] 171 (0, 0)) (by (with_reducible repeat (first | refine blk_drewN ?_ _ | refine blk_drew ?_ | refine blk_alloc ?_ _)); refine blk_put (cs := #[.int .u16 t111, .int .u16 t112, .int .u16 t113, .int .u16 t114, .int .u16 t115, .int .u16 t116, .int .u16 t117, .int .u16 0]) ?_ 7 _ rfl; refine blk_put (cs := #[.int .u16 t111, .int .u16 t112, .int .u16 t113, .int .u16 t114, .int .u16 t115, .int .u16 t116, .int .u16 0, .int .u16 0]) ?_ 6 _ rfl; refine blk_put (cs := #[.int .u16 t111, .int .u16 t112, .int .u16 t113, .int .u16 t114, .int .u16 t115, .int .u16 0, .int .u16 0, .int .u16 0]) ?_ 5 _ rfl; refine blk_put (cs := #[.int .u16 t111, .int .u16 t112, .int .u16 t113, .int .u16 t114, .int .u16 0, .int .u16 0, .int .u16 0, .int .u16 0]) ?_ 4 _ rfl; refine blk_put (cs := #[.int .u16 t111, .int .u16 t112, .int .u16 t113, .int .u16 0, .int .u16 0, .int .u16 0, .int .u16 0, .int .u16 0]) ?_ 3 _ rfl; refine blk_put (cs := #[.int .u16 t111, .int .u16 t112, .int .u16 0, .int .u16 0, .int .u16 0, .int .u16 0, .int .u16 0, .int .u16 0]) ?_ 2 _ rfl; refine blk_put (cs := #[.int .u16 t111, .int .u16 0, .int .u16 0, .int .u16 0, .int .u16 0, .int .u16 0, .int .u16 0, .int .u16 0]) ?_ 1 _ rfl; refine blk_put (cs := #[.int .u16 0, .int .u16 0, .int .u16 0, .int .u16 0, .int .u16 0, .int .u16 0, .int .u16 0, .int .u16 0]) ?_ 0 _ rfl; (with_reducible repeat (first | refine blk_drewN ?_ _ | refine blk_drew ?_ | refine blk_alloc ?_ _)); exact BK120.out) hb); replace HB := Aside0.mk (below_step (by repeat (first | (with_reducible first | exact HB.out | apply below_alloc | apply pw_below_drewN | apply below_drew1 | refine below_set ?_ GE120.out) | exact HB.out)) hb); (try clear hb); (try clear hb2); (try clear hk); (try clear hi)))
    go_ret2
    exact ⟨by first | rfl | (simp [errW_none, errW_some] <;> rfl) | (simp [*, errW_none, errW_some] <;> rfl), by repeat (first | (with_reducible first | exact HB.out | apply below_alloc | apply pw_below_drewN | apply below_drew1 | refine below_set ?_ GE120.out) | exact HB.out)⟩
   rw [if_neg c6] at H
   exact absurd H (by simp)
  rw [if_neg c5] at H
  exact absurd H (by simp)
 replace c3 := Bool.eq_false_iff.mpr c3
 subst c3
 have H1 : ((r01_Lower.f k a0).bind fun t122 => (r13_Host.l0 k t122 0)) = some (r1, r2) := by rw [if_neg (show ¬ (false = true) by decide)] at H; exact H
 clear H
 have H := H1
 clear H1
 replace H := Option.bind_eq_some_iff.mp H
 obtain ⟨t122, A110, H⟩ := H
 try dsimp only at H
 have A11 := Aside0.mk A110
 clear A110
 have H' := Aside0.mk H
 clear H
 go_enter Tryd.func134, Tryd.ntmps134
 go_wp2_with (first | ((with_reducible refine gate_callee (f := 149) rfl ?_); refine goesL_ (some 13) rfl rfl Tryd.func149 (by kernel_rfl) rfl #[.string a0] rfl (by (try simp only [List.map_toArray, List.map_cons, List.map_nil]); first | done | rfl) ?_; (with_reducible refine (r13_bracketed.calls k a0 t111 t112 t113 t114 t115 t116 t117 t118 false _ A2.out).mono ?_); rintro e w12 ⟨rfl, hb⟩; refine ⟨_, rfl, ?_⟩; replace HB := Aside0.mk (below_step (bel_later HB.out) hb); (try clear hb); (try clear hb2); (try clear hk); (try clear hi)) | ((with_reducible refine gate_dst (N := 4) rfl ?_); refine box_event ?hg (N := 4) ?hd (cs := #[.int .u16 0, .int .u16 0, .int .u16 0, .int .u16 0, .int .u16 0, .int .u16 0, .int .u16 0, .int .u16 0]) (t := 171) ?hr ?_; (case hd => rfl); (case hg => rfl); (case hr => first | (go_simp; done) | (go_simp; rfl)); intro gb120 hg w13 hbox hb; have BK120 := Aside0.mk (hbox); have GW120 := Aside0.mk ((by rw [hg]; exact (below_size (bel_later HB.out)) : w.heap.size ≤ gb120)); have GE120 := Aside0.mk ((by rw [hg]; exact (below_size (bel_later HB.out)) : w.heap.size ≤ gb120)); replace HB := Aside0.mk (below_step (bel_later HB.out) hb); clear hb hbox hg; have hq6 := fun j => blk_cell BK120.out j; have hq12 := fun j => blk_frozen BK120.out j) | ((with_reducible refine gate_callee (f := 51) rfl ?_); refine goesL_ (some 22) rfl rfl Tryd.func51 (by kernel_rfl) rfl #[.string a0] rfl (by (try simp only [List.map_toArray, List.map_cons, List.map_nil]); first | done | rfl) ?_; (with_reducible refine (r01_Lower.calls k a0 t122 _ A11.out).mono ?_); rintro e w15 ⟨rfl, hb⟩; refine ⟨_, rfl, ?_⟩; replace BK120 := Aside0.mk (blk_below (g := gb120) (o := .cells #[.int .u16 t111, .int .u16 t112, .int .u16 t113, .int .u16 t114, .int .u16 t115, .int .u16 t116, .int .u16 t117, .int .u16 t118] 171 (0, 0)) (by (with_reducible repeat (first | refine blk_drewN ?_ _ | refine blk_drew ?_ | refine blk_alloc ?_ _)); refine blk_put (cs := #[.int .u16 t111, .int .u16 t112, .int .u16 t113, .int .u16 t114, .int .u16 t115, .int .u16 t116, .int .u16 t117, .int .u16 0]) ?_ 7 _ rfl; refine blk_put (cs := #[.int .u16 t111, .int .u16 t112, .int .u16 t113, .int .u16 t114, .int .u16 t115, .int .u16 t116, .int .u16 0, .int .u16 0]) ?_ 6 _ rfl; refine blk_put (cs := #[.int .u16 t111, .int .u16 t112, .int .u16 t113, .int .u16 t114, .int .u16 t115, .int .u16 0, .int .u16 0, .int .u16 0]) ?_ 5 _ rfl; refine blk_put (cs := #[.int .u16 t111, .int .u16 t112, .int .u16 t113, .int .u16 t114, .int .u16 0, .int .u16 0, .int .u16 0, .int .u16 0]) ?_ 4 _ rfl; refine blk_put (cs := #[.int .u16 t111, .int .u16 t112, .int .u16 t113, .int .u16 0, .int .u16 0, .int .u16 0, .int .u16 0, .int .u16 0]) ?_ 3 _ rfl; refine blk_put (cs := #[.int .u16 t111, .int .u16 t112, .int .u16 0, .int .u16 0, .int .u16 0, .int .u16 0, .int .u16 0, .int .u16 0]) ?_ 2 _ rfl; refine blk_put (cs := #[.int .u16 t111, .int .u16 0, .int .u16 0, .int .u16 0, .int .u16 0, .int .u16 0, .int .u16 0, .int .u16 0]) ?_ 1 _ rfl; refine blk_put (cs := #[.int .u16 0, .int .u16 0, .int .u16 0, .int .u16 0, .int .u16 0, .int .u16 0, .int .u16 0, .int .u16 0]) ?_ 0 _ rfl; (with_reducible repeat (first | refine blk_drewN ?_ _ | refine blk_drew ?_ | refine blk_alloc ?_ _)); exact BK120.out) hb); replace HB := Aside0.mk (below_step (by repeat (first | (with_reducible first | exact HB.out | apply below_alloc | apply pw_below_drewN | apply below_drew1 | refine below_set ?_ GE120.out) | exact HB.out)) hb); (try clear hb); (try clear hb2); (try clear hk); (try clear hi)))
 go_loopg [6] k (fun kq v6 w' => ∃ (x6_1 : Int), v6 = .int .i64 x6_1 ∧ Aside0 (r13_Host.l0 kq t122 x6_1 = some (r1, r2)) ∧ Aside0 (kq ≤ k) ∧ Aside0 (w'.heap[gb120]? = some (.cells #[.int .u16 t111, .int .u16 t112, .int .u16 t113, .int .u16 t114, .int .u16 t115, .int .u16 t116, .int .u16 t117, .int .u16 t118] 171 (0, 0))) ∧ Aside0 (Below w.heap.size w w'))
 case atStart => exact ⟨(0), (by first | rfl | (simp [bne, *]; done) | (simp; done)), H', ⟨Nat.le_refl _⟩, ⟨by (with_reducible repeat (first | refine blk_drewN ?_ _ | refine blk_drew ?_ | refine blk_alloc ?_ _)); exact BK120.out⟩, ⟨by repeat (first | (with_reducible first | exact HB.out | apply below_alloc | apply pw_below_drewN | apply below_drew1 | refine below_set ?_ GE120.out) | exact HB.out)⟩⟩
 case round =>
  clear H'
  try clear c1
  try clear p2
  try clear c3
  try clear c5
  try clear c5b0
  try clear c5b1
  try clear c5b2
  try clear c6
  try clear c6b0
  try clear c6b1
  try clear c6b2
  try clear c13
  try clear c14
  try clear c15
  try clear hcz14_0
  try clear hcz14_1
  try clear hcz14_2
  try clear hcz14_3
  try clear hcz14_4
  try clear hcz14_5
  try clear hcz14_6
  try clear hcz14_7
  try clear hcz9_0
  try clear hcz9_1
  try clear hcz9_2
  try clear hcz9_3
  try clear hcz9_4
  try clear hcz9_5
  try clear hcz9_6
  try clear hcz9_7
  try clear hfz14_0
  try clear hfz14_1
  try clear hfz14_2
  try clear hfz14_3
  try clear hfz14_4
  try clear hfz14_5
  try clear hfz14_6
  try clear hfz14_7
  try clear hfz9_0
  try clear hfz9_1
  try clear hfz9_2
  try clear hfz9_3
  try clear hfz9_4
  try clear hfz9_5
  try clear hfz9_6
  try clear hfz9_7
  obtain ⟨x6_1, rfl, HA, HK1, BK120, HB⟩ := hrel
  cases gk with
  | zero => exact absurd HA.out (by simp [r13_Host.l0])
  | succ k1 =>
   have H := HA.out
   clear HA
   simp only [r13_Host.l0] at H
   by_cases c16 : x6_1 < (t122.size : Int)
   ·rw [if_pos c16] at H
    have c16b0 : decide (x6_1 < (t122.size : Int)) = true := decide_eq_true c16
    clear c16
    by_cases c17 : 0 ≤ x6_1
    ·rw [if_pos c17] at H
     have c17b0 : decide (0 ≤ x6_1) = true := decide_eq_true c17
     clear c17
     by_cases c19 : (bt t122 x6_1) ≥ 97
     ·rw [if_pos c19] at H
      have c19b0 : decide (97 ≤ (bt t122 x6_1)) = true := decide_eq_true c19
      clear c19
      by_cases c20 : ((bt t122 x6_1) ≤ 122)
      ·rw [if_pos c20] at H
       have c20b0 : decide ((bt t122 x6_1) ≤ 122) = true := decide_eq_true c20
       clear c20
       have H' := Aside0.mk H
       clear H
       have p18 : 0 ≤ (x6_1 : Int) := of_decide_eq_true (by first | (with_reducible assumption) | assumption)
       have q18 : x6_1 < (t122.size : Int) := of_decide_eq_true (by first | (with_reducible assumption) | assumption)
       have hx18 := bt_at t122 x6_1
       replace p18 := eq_true p18
       replace q18 := eq_true q18
       go_wp2
       go_roundg k1
       case measure => have := HK1.out; omega
       case rel => exact ⟨(wrap64 (x6_1 + 1)), (by first | rfl | (simp [bne, *]; done) | (simp; done)), H', ⟨by have := HK1.out; omega⟩, ⟨by (with_reducible repeat (first | refine blk_drewN ?_ _ | refine blk_drew ?_ | refine blk_alloc ?_ _)); exact BK120.out⟩, ⟨by repeat (first | (with_reducible first | exact HB.out | apply below_alloc | apply pw_below_drewN | apply below_drew1 | refine below_set ?_ GE120.out) | exact HB.out)⟩⟩
      rw [if_neg c20] at H
      have c20b0 : decide ((bt t122 x6_1) ≤ 122) = false := decide_eq_false c20
      clear c20
      by_cases c21 : (bt t122 x6_1) ≥ 48
      ·rw [if_pos c21] at H
       have c21b0 : decide (48 ≤ (bt t122 x6_1)) = true := decide_eq_true c21
       clear c21
       by_cases c22 : ((bt t122 x6_1) ≤ 57)
       ·rw [if_pos c22] at H
        have c22b0 : decide ((bt t122 x6_1) ≤ 57) = true := decide_eq_true c22
        clear c22
        have H' := Aside0.mk H
        clear H
        have p18 : 0 ≤ (x6_1 : Int) := of_decide_eq_true (by first | (with_reducible assumption) | assumption)
        have q18 : x6_1 < (t122.size : Int) := of_decide_eq_true (by first | (with_reducible assumption) | assumption)
        have hx18 := bt_at t122 x6_1
        replace p18 := eq_true p18
        replace q18 := eq_true q18
        go_wp2
        go_roundg k1
        case measure => have := HK1.out; omega
        case rel => exact ⟨(wrap64 (x6_1 + 1)), (by first | rfl | (simp [bne, *]; done) | (simp; done)), H', ⟨by have := HK1.out; omega⟩, ⟨by (with_reducible repeat (first | refine blk_drewN ?_ _ | refine blk_drew ?_ | refine blk_alloc ?_ _)); exact BK120.out⟩, ⟨by repeat (first | (with_reducible first | exact HB.out | apply below_alloc | apply pw_below_drewN | apply below_drew1 | refine below_set ?_ GE120.out) | exact HB.out)⟩⟩
       rw [if_neg c22] at H
       have c22b0 : decide ((bt t122 x6_1) ≤ 57) = false := decide_eq_false c22
       clear c22
       by_cases c23 : (bt t122 x6_1) = 45
       ·rw [if_pos c23] at H
        have c23b0 : ((bt t122 x6_1) == 45) = true := beq_iff_eq.mpr c23
        have c23b1 : ((bt t122 x6_1) != 45) = false := bne_eq_false_iff_eq.mpr c23
        clear c23
        have H' := Aside0.mk H
        clear H
        have p18 : 0 ≤ (x6_1 : Int) := of_decide_eq_true (by first | (with_reducible assumption) | assumption)
        have q18 : x6_1 < (t122.size : Int) := of_decide_eq_true (by first | (with_reducible assumption) | assumption)
        have hx18 := bt_at t122 x6_1
        replace p18 := eq_true p18
        replace q18 := eq_true q18
        go_wp2
        go_roundg k1
        case measure => have := HK1.out; omega
        case rel => exact ⟨(wrap64 (x6_1 + 1)), (by first | rfl | (simp [bne, *]; done) | (simp; done)), H', ⟨by have := HK1.out; omega⟩, ⟨by (with_reducible repeat (first | refine blk_drewN ?_ _ | refine blk_drew ?_ | refine blk_alloc ?_ _)); exact BK120.out⟩, ⟨by repeat (first | (with_reducible first | exact HB.out | apply below_alloc | apply pw_below_drewN | apply below_drew1 | refine below_set ?_ GE120.out) | exact HB.out)⟩⟩
       rw [if_neg c23] at H
       have c23b0 : ((bt t122 x6_1) == 45) = false := beq_eq_false_iff_ne.mpr c23
       have c23b1 : ((bt t122 x6_1) != 45) = true := bne_iff_ne.mpr c23
       by_cases c24 : (bt t122 x6_1) = 95
       ·rw [if_pos c24] at H
        have c24b0 : ((bt t122 x6_1) == 95) = true := beq_iff_eq.mpr c24
        have c24b1 : ((bt t122 x6_1) != 95) = false := bne_eq_false_iff_eq.mpr c24
        clear c24
        have H' := Aside0.mk H
        clear H
        have p18 : 0 ≤ (x6_1 : Int) := of_decide_eq_true (by first | (with_reducible assumption) | assumption)
        have q18 : x6_1 < (t122.size : Int) := of_decide_eq_true (by first | (with_reducible assumption) | assumption)
        have hx18 := bt_at t122 x6_1
        replace p18 := eq_true p18
        replace q18 := eq_true q18
        go_wp2
        go_roundg k1
        case measure => have := HK1.out; omega
        case rel => exact ⟨(wrap64 (x6_1 + 1)), (by first | rfl | (simp [bne, *]; done) | (simp; done)), H', ⟨by have := HK1.out; omega⟩, ⟨by (with_reducible repeat (first | refine blk_drewN ?_ _ | refine blk_drew ?_ | refine blk_alloc ?_ _)); exact BK120.out⟩, ⟨by repeat (first | (with_reducible first | exact HB.out | apply below_alloc | apply pw_below_drewN | apply below_drew1 | refine below_set ?_ GE120.out) | exact HB.out)⟩⟩
       rw [if_neg c24] at H
       have c24b0 : ((bt t122 x6_1) == 95) = false := beq_eq_false_iff_ne.mpr c24
       have c24b1 : ((bt t122 x6_1) != 95) = true := bne_iff_ne.mpr c24
       by_cases c25 : (bt t122 x6_1) = 46
       ·rw [if_pos c25] at H
        have c25b0 : ((bt t122 x6_1) == 46) = true := beq_iff_eq.mpr c25
        have c25b1 : ((bt t122 x6_1) != 46) = false := bne_eq_false_iff_eq.mpr c25
        clear c25
        have H' := Aside0.mk H
        clear H
        have p18 : 0 ≤ (x6_1 : Int) := of_decide_eq_true (by first | (with_reducible assumption) | assumption)
        have q18 : x6_1 < (t122.size : Int) := of_decide_eq_true (by first | (with_reducible assumption) | assumption)
        have hx18 := bt_at t122 x6_1
        replace p18 := eq_true p18
        replace q18 := eq_true q18
        go_wp2
        go_roundg k1
        case measure => have := HK1.out; omega
        case rel => exact ⟨(wrap64 (x6_1 + 1)), (by first | rfl | (simp [bne, *]; done) | (simp; done)), H', ⟨by have := HK1.out; omega⟩, ⟨by (with_reducible repeat (first | refine blk_drewN ?_ _ | refine blk_drew ?_ | refine blk_alloc ?_ _)); exact BK120.out⟩, ⟨by repeat (first | (with_reducible first | exact HB.out | apply below_alloc | apply pw_below_drewN | apply below_drew1 | refine below_set ?_ GE120.out) | exact HB.out)⟩⟩
       rw [if_neg c25] at H
       have c25b0 : ((bt t122 x6_1) == 46) = false := beq_eq_false_iff_ne.mpr c25
       have c25b1 : ((bt t122 x6_1) != 46) = true := bne_iff_ne.mpr c25
       simp only [Option.some.injEq, Prod.mk.injEq] at H
       obtain ⟨rfl, rfl⟩ := H
       have p18 : 0 ≤ (x6_1 : Int) := of_decide_eq_true (by first | (with_reducible assumption) | assumption)
       have q18 : x6_1 < (t122.size : Int) := of_decide_eq_true (by first | (with_reducible assumption) | assumption)
       have hx18 := bt_at t122 x6_1
       replace p18 := eq_true p18
       replace q18 := eq_true q18
       go_wp2
       go_ret2
       exact ⟨by first | rfl | (simp [errW_none, errW_some] <;> rfl) | (simp [*, errW_none, errW_some] <;> rfl), by repeat (first | (with_reducible first | exact HB.out | apply below_alloc | apply pw_below_drewN | apply below_drew1 | refine below_set ?_ GE120.out) | exact HB.out)⟩
      rw [if_neg c21] at H
      have c21b0 : decide (48 ≤ (bt t122 x6_1)) = false := decide_eq_false c21
      clear c21
      by_cases c26 : (bt t122 x6_1) = 45
      ·rw [if_pos c26] at H
       have c26b0 : ((bt t122 x6_1) == 45) = true := beq_iff_eq.mpr c26
       have c26b1 : ((bt t122 x6_1) != 45) = false := bne_eq_false_iff_eq.mpr c26
       clear c26
       have H' := Aside0.mk H
       clear H
       have p18 : 0 ≤ (x6_1 : Int) := of_decide_eq_true (by first | (with_reducible assumption) | assumption)
       have q18 : x6_1 < (t122.size : Int) := of_decide_eq_true (by first | (with_reducible assumption) | assumption)
       have hx18 := bt_at t122 x6_1
       replace p18 := eq_true p18
       replace q18 := eq_true q18
       go_wp2
       go_roundg k1
       case measure => have := HK1.out; omega
       case rel => exact ⟨(wrap64 (x6_1 + 1)), (by first | rfl | (simp [bne, *]; done) | (simp; done)), H', ⟨by have := HK1.out; omega⟩, ⟨by (with_reducible repeat (first | refine blk_drewN ?_ _ | refine blk_drew ?_ | refine blk_alloc ?_ _)); exact BK120.out⟩, ⟨by repeat (first | (with_reducible first | exact HB.out | apply below_alloc | apply pw_below_drewN | apply below_drew1 | refine below_set ?_ GE120.out) | exact HB.out)⟩⟩
      rw [if_neg c26] at H
      have c26b0 : ((bt t122 x6_1) == 45) = false := beq_eq_false_iff_ne.mpr c26
      have c26b1 : ((bt t122 x6_1) != 45) = true := bne_iff_ne.mpr c26
      by_cases c27 : (bt t122 x6_1) = 95
      ·rw [if_pos c27] at H
       have c27b0 : ((bt t122 x6_1) == 95) = true := beq_iff_eq.mpr c27
       have c27b1 : ((bt t122 x6_1) != 95) = false := bne_eq_false_iff_eq.mpr c27
       clear c27
       have H' := Aside0.mk H
       clear H
       have p18 : 0 ≤ (x6_1 : Int) := of_decide_eq_true (by first | (with_reducible assumption) | assumption)
       have q18 : x6_1 < (t122.size : Int) := of_decide_eq_true (by first | (with_reducible assumption) | assumption)
       have hx18 := bt_at t122 x6_1
       replace p18 := eq_true p18
       replace q18 := eq_true q18
       go_wp2
       go_roundg k1
       case measure => have := HK1.out; omega
       case rel => exact ⟨(wrap64 (x6_1 + 1)), (by first | rfl | (simp [bne, *]; done) | (simp; done)), H', ⟨by have := HK1.out; omega⟩, ⟨by (with_reducible repeat (first | refine blk_drewN ?_ _ | refine blk_drew ?_ | refine blk_alloc ?_ _)); exact BK120.out⟩, ⟨by repeat (first | (with_reducible first | exact HB.out | apply below_alloc | apply pw_below_drewN | apply below_drew1 | refine below_set ?_ GE120.out) | exact HB.out)⟩⟩
      rw [if_neg c27] at H
      have c27b0 : ((bt t122 x6_1) == 95) = false := beq_eq_false_iff_ne.mpr c27
      have c27b1 : ((bt t122 x6_1) != 95) = true := bne_iff_ne.mpr c27
      by_cases c28 : (bt t122 x6_1) = 46
      ·rw [if_pos c28] at H
       have c28b0 : ((bt t122 x6_1) == 46) = true := beq_iff_eq.mpr c28
       have c28b1 : ((bt t122 x6_1) != 46) = false := bne_eq_false_iff_eq.mpr c28
       clear c28
       have H' := Aside0.mk H
       clear H
       have p18 : 0 ≤ (x6_1 : Int) := of_decide_eq_true (by first | (with_reducible assumption) | assumption)
       have q18 : x6_1 < (t122.size : Int) := of_decide_eq_true (by first | (with_reducible assumption) | assumption)
       have hx18 := bt_at t122 x6_1
       replace p18 := eq_true p18
       replace q18 := eq_true q18
       go_wp2
       go_roundg k1
       case measure => have := HK1.out; omega
       case rel => exact ⟨(wrap64 (x6_1 + 1)), (by first | rfl | (simp [bne, *]; done) | (simp; done)), H', ⟨by have := HK1.out; omega⟩, ⟨by (with_reducible repeat (first | refine blk_drewN ?_ _ | refine blk_drew ?_ | refine blk_alloc ?_ _)); exact BK120.out⟩, ⟨by repeat (first | (with_reducible first | exact HB.out | apply below_alloc | apply pw_below_drewN | apply below_drew1 | refine below_set ?_ GE120.out) | exact HB.out)⟩⟩
      rw [if_neg c28] at H
      have c28b0 : ((bt t122 x6_1) == 46) = false := beq_eq_false_iff_ne.mpr c28
      have c28b1 : ((bt t122 x6_1) != 46) = true := bne_iff_ne.mpr c28
      simp only [Option.some.injEq, Prod.mk.injEq] at H
      obtain ⟨rfl, rfl⟩ := H
      have p18 : 0 ≤ (x6_1 : Int) := of_decide_eq_true (by first | (with_reducible assumption) | assumption)
      have q18 : x6_1 < (t122.size : Int) := of_decide_eq_true (by first | (with_reducible assumption) | assumption)
      have hx18 := bt_at t122 x6_1
      replace p18 := eq_true p18
      replace q18 := eq_true q18
      go_wp2
      go_ret2
      exact ⟨by first | rfl | (simp [errW_none, errW_some] <;> rfl) | (simp [*, errW_none, errW_some] <;> rfl), by repeat (first | (with_reducible first | exact HB.out | apply below_alloc | apply pw_below_drewN | apply below_drew1 | refine below_set ?_ GE120.out) | exact HB.out)⟩
     rw [if_neg c19] at H
     have c19b0 : decide (97 ≤ (bt t122 x6_1)) = false := decide_eq_false c19
     clear c19
     by_cases c29 : (bt t122 x6_1) ≥ 48
     ·rw [if_pos c29] at H
      have c29b0 : decide (48 ≤ (bt t122 x6_1)) = true := decide_eq_true c29
      clear c29
      by_cases c30 : ((bt t122 x6_1) ≤ 57)
      ·rw [if_pos c30] at H
       have c30b0 : decide ((bt t122 x6_1) ≤ 57) = true := decide_eq_true c30
       clear c30
       have H' := Aside0.mk H
       clear H
       have p18 : 0 ≤ (x6_1 : Int) := of_decide_eq_true (by first | (with_reducible assumption) | assumption)
       have q18 : x6_1 < (t122.size : Int) := of_decide_eq_true (by first | (with_reducible assumption) | assumption)
       have hx18 := bt_at t122 x6_1
       replace p18 := eq_true p18
       replace q18 := eq_true q18
       go_wp2
       go_roundg k1
       case measure => have := HK1.out; omega
       case rel => exact ⟨(wrap64 (x6_1 + 1)), (by first | rfl | (simp [bne, *]; done) | (simp; done)), H', ⟨by have := HK1.out; omega⟩, ⟨by (with_reducible repeat (first | refine blk_drewN ?_ _ | refine blk_drew ?_ | refine blk_alloc ?_ _)); exact BK120.out⟩, ⟨by repeat (first | (with_reducible first | exact HB.out | apply below_alloc | apply pw_below_drewN | apply below_drew1 | refine below_set ?_ GE120.out) | exact HB.out)⟩⟩
      rw [if_neg c30] at H
      have c30b0 : decide ((bt t122 x6_1) ≤ 57) = false := decide_eq_false c30
      clear c30
      by_cases c31 : (bt t122 x6_1) = 45
      ·rw [if_pos c31] at H
       have c31b0 : ((bt t122 x6_1) == 45) = true := beq_iff_eq.mpr c31
       have c31b1 : ((bt t122 x6_1) != 45) = false := bne_eq_false_iff_eq.mpr c31
       clear c31
       have H' := Aside0.mk H
       clear H
       have p18 : 0 ≤ (x6_1 : Int) := of_decide_eq_true (by first | (with_reducible assumption) | assumption)
       have q18 : x6_1 < (t122.size : Int) := of_decide_eq_true (by first | (with_reducible assumption) | assumption)
       have hx18 := bt_at t122 x6_1
       replace p18 := eq_true p18
       replace q18 := eq_true q18
       go_wp2
       go_roundg k1
       case measure => have := HK1.out; omega
       case rel => exact ⟨(wrap64 (x6_1 + 1)), (by first | rfl | (simp [bne, *]; done) | (simp; done)), H', ⟨by have := HK1.out; omega⟩, ⟨by (with_reducible repeat (first | refine blk_drewN ?_ _ | refine blk_drew ?_ | refine blk_alloc ?_ _)); exact BK120.out⟩, ⟨by repeat (first | (with_reducible first | exact HB.out | apply below_alloc | apply pw_below_drewN | apply below_drew1 | refine below_set ?_ GE120.out) | exact HB.out)⟩⟩
      rw [if_neg c31] at H
      have c31b0 : ((bt t122 x6_1) == 45) = false := beq_eq_false_iff_ne.mpr c31
      have c31b1 : ((bt t122 x6_1) != 45) = true := bne_iff_ne.mpr c31
      by_cases c32 : (bt t122 x6_1) = 95
      ·rw [if_pos c32] at H
       have c32b0 : ((bt t122 x6_1) == 95) = true := beq_iff_eq.mpr c32
       have c32b1 : ((bt t122 x6_1) != 95) = false := bne_eq_false_iff_eq.mpr c32
       clear c32
       have H' := Aside0.mk H
       clear H
       have p18 : 0 ≤ (x6_1 : Int) := of_decide_eq_true (by first | (with_reducible assumption) | assumption)
       have q18 : x6_1 < (t122.size : Int) := of_decide_eq_true (by first | (with_reducible assumption) | assumption)
       have hx18 := bt_at t122 x6_1
       replace p18 := eq_true p18
       replace q18 := eq_true q18
       go_wp2
       go_roundg k1
       case measure => have := HK1.out; omega
       case rel => exact ⟨(wrap64 (x6_1 + 1)), (by first | rfl | (simp [bne, *]; done) | (simp; done)), H', ⟨by have := HK1.out; omega⟩, ⟨by (with_reducible repeat (first | refine blk_drewN ?_ _ | refine blk_drew ?_ | refine blk_alloc ?_ _)); exact BK120.out⟩, ⟨by repeat (first | (with_reducible first | exact HB.out | apply below_alloc | apply pw_below_drewN | apply below_drew1 | refine below_set ?_ GE120.out) | exact HB.out)⟩⟩
      rw [if_neg c32] at H
      have c32b0 : ((bt t122 x6_1) == 95) = false := beq_eq_false_iff_ne.mpr c32
      have c32b1 : ((bt t122 x6_1) != 95) = true := bne_iff_ne.mpr c32
      by_cases c33 : (bt t122 x6_1) = 46
      ·rw [if_pos c33] at H
       have c33b0 : ((bt t122 x6_1) == 46) = true := beq_iff_eq.mpr c33
       have c33b1 : ((bt t122 x6_1) != 46) = false := bne_eq_false_iff_eq.mpr c33
       clear c33
       have H' := Aside0.mk H
       clear H
       have p18 : 0 ≤ (x6_1 : Int) := of_decide_eq_true (by first | (with_reducible assumption) | assumption)
       have q18 : x6_1 < (t122.size : Int) := of_decide_eq_true (by first | (with_reducible assumption) | assumption)
       have hx18 := bt_at t122 x6_1
       replace p18 := eq_true p18
       replace q18 := eq_true q18
       go_wp2
       go_roundg k1
       case measure => have := HK1.out; omega
       case rel => exact ⟨(wrap64 (x6_1 + 1)), (by first | rfl | (simp [bne, *]; done) | (simp; done)), H', ⟨by have := HK1.out; omega⟩, ⟨by (with_reducible repeat (first | refine blk_drewN ?_ _ | refine blk_drew ?_ | refine blk_alloc ?_ _)); exact BK120.out⟩, ⟨by repeat (first | (with_reducible first | exact HB.out | apply below_alloc | apply pw_below_drewN | apply below_drew1 | refine below_set ?_ GE120.out) | exact HB.out)⟩⟩
      rw [if_neg c33] at H
      have c33b0 : ((bt t122 x6_1) == 46) = false := beq_eq_false_iff_ne.mpr c33
      have c33b1 : ((bt t122 x6_1) != 46) = true := bne_iff_ne.mpr c33
      simp only [Option.some.injEq, Prod.mk.injEq] at H
      obtain ⟨rfl, rfl⟩ := H
      have p18 : 0 ≤ (x6_1 : Int) := of_decide_eq_true (by first | (with_reducible assumption) | assumption)
      have q18 : x6_1 < (t122.size : Int) := of_decide_eq_true (by first | (with_reducible assumption) | assumption)
      have hx18 := bt_at t122 x6_1
      replace p18 := eq_true p18
      replace q18 := eq_true q18
      go_wp2
      go_ret2
      exact ⟨by first | rfl | (simp [errW_none, errW_some] <;> rfl) | (simp [*, errW_none, errW_some] <;> rfl), by repeat (first | (with_reducible first | exact HB.out | apply below_alloc | apply pw_below_drewN | apply below_drew1 | refine below_set ?_ GE120.out) | exact HB.out)⟩
     rw [if_neg c29] at H
     have c29b0 : decide (48 ≤ (bt t122 x6_1)) = false := decide_eq_false c29
     clear c29
     by_cases c34 : (bt t122 x6_1) = 45
     ·rw [if_pos c34] at H
      have c34b0 : ((bt t122 x6_1) == 45) = true := beq_iff_eq.mpr c34
      have c34b1 : ((bt t122 x6_1) != 45) = false := bne_eq_false_iff_eq.mpr c34
      clear c34
      have H' := Aside0.mk H
      clear H
      have p18 : 0 ≤ (x6_1 : Int) := of_decide_eq_true (by first | (with_reducible assumption) | assumption)
      have q18 : x6_1 < (t122.size : Int) := of_decide_eq_true (by first | (with_reducible assumption) | assumption)
      have hx18 := bt_at t122 x6_1
      replace p18 := eq_true p18
      replace q18 := eq_true q18
      go_wp2
      go_roundg k1
      case measure => have := HK1.out; omega
      case rel => exact ⟨(wrap64 (x6_1 + 1)), (by first | rfl | (simp [bne, *]; done) | (simp; done)), H', ⟨by have := HK1.out; omega⟩, ⟨by (with_reducible repeat (first | refine blk_drewN ?_ _ | refine blk_drew ?_ | refine blk_alloc ?_ _)); exact BK120.out⟩, ⟨by repeat (first | (with_reducible first | exact HB.out | apply below_alloc | apply pw_below_drewN | apply below_drew1 | refine below_set ?_ GE120.out) | exact HB.out)⟩⟩
     rw [if_neg c34] at H
     have c34b0 : ((bt t122 x6_1) == 45) = false := beq_eq_false_iff_ne.mpr c34
     have c34b1 : ((bt t122 x6_1) != 45) = true := bne_iff_ne.mpr c34
     by_cases c35 : (bt t122 x6_1) = 95
     ·rw [if_pos c35] at H
      have c35b0 : ((bt t122 x6_1) == 95) = true := beq_iff_eq.mpr c35
      have c35b1 : ((bt t122 x6_1) != 95) = false := bne_eq_false_iff_eq.mpr c35
      clear c35
      have H' := Aside0.mk H
      clear H
      have p18 : 0 ≤ (x6_1 : Int) := of_decide_eq_true (by first | (with_reducible assumption) | assumption)
      have q18 : x6_1 < (t122.size : Int) := of_decide_eq_true (by first | (with_reducible assumption) | assumption)
      have hx18 := bt_at t122 x6_1
      replace p18 := eq_true p18
      replace q18 := eq_true q18
      go_wp2
      go_roundg k1
      case measure => have := HK1.out; omega
      case rel => exact ⟨(wrap64 (x6_1 + 1)), (by first | rfl | (simp [bne, *]; done) | (simp; done)), H', ⟨by have := HK1.out; omega⟩, ⟨by (with_reducible repeat (first | refine blk_drewN ?_ _ | refine blk_drew ?_ | refine blk_alloc ?_ _)); exact BK120.out⟩, ⟨by repeat (first | (with_reducible first | exact HB.out | apply below_alloc | apply pw_below_drewN | apply below_drew1 | refine below_set ?_ GE120.out) | exact HB.out)⟩⟩
     rw [if_neg c35] at H
     have c35b0 : ((bt t122 x6_1) == 95) = false := beq_eq_false_iff_ne.mpr c35
     have c35b1 : ((bt t122 x6_1) != 95) = true := bne_iff_ne.mpr c35
     by_cases c36 : (bt t122 x6_1) = 46
     ·rw [if_pos c36] at H
      have c36b0 : ((bt t122 x6_1) == 46) = true := beq_iff_eq.mpr c36
      have c36b1 : ((bt t122 x6_1) != 46) = false := bne_eq_false_iff_eq.mpr c36
      clear c36
      have H' := Aside0.mk H
      clear H
      have p18 : 0 ≤ (x6_1 : Int) := of_decide_eq_true (by first | (with_reducible assumption) | assumption)
      have q18 : x6_1 < (t122.size : Int) := of_decide_eq_true (by first | (with_reducible assumption) | assumption)
      have hx18 := bt_at t122 x6_1
      replace p18 := eq_true p18
      replace q18 := eq_true q18
      go_wp2
      go_roundg k1
      case measure => have := HK1.out; omega
      case rel => exact ⟨(wrap64 (x6_1 + 1)), (by first | rfl | (simp [bne, *]; done) | (simp; done)), H', ⟨by have := HK1.out; omega⟩, ⟨by (with_reducible repeat (first | refine blk_drewN ?_ _ | refine blk_drew ?_ | refine blk_alloc ?_ _)); exact BK120.out⟩, ⟨by repeat (first | (with_reducible first | exact HB.out | apply below_alloc | apply pw_below_drewN | apply below_drew1 | refine below_set ?_ GE120.out) | exact HB.out)⟩⟩
     rw [if_neg c36] at H
     have c36b0 : ((bt t122 x6_1) == 46) = false := beq_eq_false_iff_ne.mpr c36
     have c36b1 : ((bt t122 x6_1) != 46) = true := bne_iff_ne.mpr c36
     simp only [Option.some.injEq, Prod.mk.injEq] at H
     obtain ⟨rfl, rfl⟩ := H
     have p18 : 0 ≤ (x6_1 : Int) := of_decide_eq_true (by first | (with_reducible assumption) | assumption)
     have q18 : x6_1 < (t122.size : Int) := of_decide_eq_true (by first | (with_reducible assumption) | assumption)
     have hx18 := bt_at t122 x6_1
     replace p18 := eq_true p18
     replace q18 := eq_true q18
     go_wp2
     go_ret2
     exact ⟨by first | rfl | (simp [errW_none, errW_some] <;> rfl) | (simp [*, errW_none, errW_some] <;> rfl), by repeat (first | (with_reducible first | exact HB.out | apply below_alloc | apply pw_below_drewN | apply below_drew1 | refine below_set ?_ GE120.out) | exact HB.out)⟩
    rw [if_neg c17] at H
    exact absurd H (by simp)
   rw [if_neg c16] at H
   have c16b0 : decide (x6_1 < (t122.size : Int)) = false := decide_eq_false c16
   clear c16
   replace H := Option.bind_eq_some_iff.mp H
   obtain ⟨⟨t123, t124⟩, A370, H⟩ := H
   try dsimp only at H
   have A37 := Aside0.mk A370
   clear A370
   by_cases c38 : t124 = 2
   ·rw [if_pos c38] at H
    have c38b0 : (t124 == 2) = true := beq_iff_eq.mpr c38
    have c38b1 : (t124 != 2) = false := bne_eq_false_iff_eq.mpr c38
    clear c38
    replace H := Option.bind_eq_some_iff.mp H
    obtain ⟨t125, A390, H⟩ := H
    try dsimp only at H
    have A39 := Aside0.mk A390
    clear A390
    simp only [Option.some.injEq, Prod.mk.injEq] at H
    obtain ⟨rfl, rfl⟩ := H
    go_wp2_with (first | ((with_reducible refine gate_callee (f := 151) rfl ?_); refine goesL_ (some 62) rfl rfl Tryd.func151 (by kernel_rfl) rfl #[.string t122] rfl (by (try simp only [List.map_toArray, List.map_cons, List.map_nil]); first | done | rfl) ?_; (with_reducible refine (r02_Loose.calls k1 t122 t123 t124 _ A37.out).mono ?_); rintro e w40 ⟨rfl, hb⟩; refine ⟨_, rfl, ?_⟩; replace BK120 := Aside0.mk (blk_below (blk_later BK120.out) hb); replace HB := Aside0.mk (below_step (by repeat (first | (with_reducible first | exact HB.out | apply below_alloc | apply pw_below_drewN | apply below_drew1 | refine below_set ?_ GE120.out) | exact HB.out)) hb); (try clear hb); (try clear hb2); (try clear hk); (try clear hi)) | ((with_reducible refine gate_callee (f := 152) rfl ?_); refine goesL_ (some 68) rfl rfl Tryd.func152 (by kernel_rfl) rfl #[.int .u32 t123] rfl (by (try simp only [List.map_toArray, List.map_cons, List.map_nil]); first | done | rfl) ?_; (with_reducible refine (r02_Print.calls k1 t123 t125 _ A39.out).mono ?_); rintro e w41 ⟨rfl, hb⟩; refine ⟨_, rfl, ?_⟩; replace BK120 := Aside0.mk (blk_below (blk_later BK120.out) hb); replace HB := Aside0.mk (below_step (by repeat (first | (with_reducible first | exact HB.out | apply below_alloc | apply pw_below_drewN | apply below_drew1 | refine below_set ?_ GE120.out) | exact HB.out)) hb); (try clear hb); (try clear hb2); (try clear hk); (try clear hi)))
    go_ret2
    exact ⟨by first | rfl | (simp [errW_none, errW_some] <;> rfl) | (simp [*, errW_none, errW_some] <;> rfl), by repeat (first | (with_reducible first | exact HB.out | apply below_alloc | apply pw_below_drewN | apply below_drew1 | refine below_set ?_ GE120.out) | exact HB.out)⟩
   rw [if_neg c38] at H
   have c38b0 : (t124 == 2) = false := beq_eq_false_iff_ne.mpr c38
   have c38b1 : (t124 != 2) = true := bne_iff_ne.mpr c38
   replace H := Option.bind_eq_some_iff.mp H
   obtain ⟨t126, A420, H⟩ := H
   try dsimp only at H
   have A42 := Aside0.mk A420
   clear A420
   by_cases c43 : t124 = 0
   ·rw [if_pos c43] at H
    have c43b0 : (t124 == 0) = true := beq_iff_eq.mpr c43
    have c43b1 : (t124 != 0) = false := bne_eq_false_iff_eq.mpr c43
    clear c43
    by_cases c44 : t126 = true
    ·subst c44
     have H1 : (if t122.toList = ([] : List UInt8) then (some ((⟨#[]⟩ : ByteArray), false)) else (some (t122, true))) = some (r1, r2) := by rw [if_pos rfl] at H; exact H
     clear H
     have H := H1
     clear H1
     by_cases c45 : t122.toList = ([] : List UInt8)
     ·rw [if_pos c45] at H
      have c45b0 : (t122.toList == ([] : List UInt8)) = true := beq_iff_eq.mpr c45
      have c45b1 : (t122.toList != ([] : List UInt8)) = false := bne_eq_false_iff_eq.mpr c45
      clear c45
      simp only [Option.some.injEq, Prod.mk.injEq] at H
      obtain ⟨rfl, rfl⟩ := H
      go_wp2_with (first | ((with_reducible refine gate_callee (f := 151) rfl ?_); refine goesL_ (some 62) rfl rfl Tryd.func151 (by kernel_rfl) rfl #[.string t122] rfl (by (try simp only [List.map_toArray, List.map_cons, List.map_nil]); first | done | rfl) ?_; (with_reducible refine (r02_Loose.calls k1 t122 t123 t124 _ A37.out).mono ?_); rintro e w46 ⟨rfl, hb⟩; refine ⟨_, rfl, ?_⟩; replace BK120 := Aside0.mk (blk_below (blk_later BK120.out) hb); replace HB := Aside0.mk (below_step (by repeat (first | (with_reducible first | exact HB.out | apply below_alloc | apply pw_below_drewN | apply below_drew1 | refine below_set ?_ GE120.out) | exact HB.out)) hb); (try clear hb); (try clear hb2); (try clear hk); (try clear hi)) | ((with_reducible refine gate_callee (f := 153) rfl ?_); refine goesL_ (some 70) rfl rfl Tryd.func153 (by kernel_rfl) rfl #[.string t122] rfl (by (try simp only [List.map_toArray, List.map_cons, List.map_nil]); first | done | rfl) ?_; (with_reducible refine (r08_May.calls k1 t122 true _ A42.out).mono ?_); rintro e w47 ⟨rfl, hb⟩; refine ⟨_, rfl, ?_⟩; replace BK120 := Aside0.mk (blk_below (blk_later BK120.out) hb); replace HB := Aside0.mk (below_step (by repeat (first | (with_reducible first | exact HB.out | apply below_alloc | apply pw_below_drewN | apply below_drew1 | refine below_set ?_ GE120.out) | exact HB.out)) hb); (try clear hb); (try clear hb2); (try clear hk); (try clear hi)))
      go_ret2
      exact ⟨by first | rfl | (simp [errW_none, errW_some] <;> rfl) | (simp [*, errW_none, errW_some] <;> rfl), by repeat (first | (with_reducible first | exact HB.out | apply below_alloc | apply pw_below_drewN | apply below_drew1 | refine below_set ?_ GE120.out) | exact HB.out)⟩
     rw [if_neg c45] at H
     have c45b0 : (t122.toList == ([] : List UInt8)) = false := beq_eq_false_iff_ne.mpr c45
     have c45b1 : (t122.toList != ([] : List UInt8)) = true := bne_iff_ne.mpr c45
     simp only [Option.some.injEq, Prod.mk.injEq] at H
     obtain ⟨rfl, rfl⟩ := H
     go_wp2_with (first | ((with_reducible refine gate_callee (f := 151) rfl ?_); refine goesL_ (some 62) rfl rfl Tryd.func151 (by kernel_rfl) rfl #[.string t122] rfl (by (try simp only [List.map_toArray, List.map_cons, List.map_nil]); first | done | rfl) ?_; (with_reducible refine (r02_Loose.calls k1 t122 t123 t124 _ A37.out).mono ?_); rintro e w48 ⟨rfl, hb⟩; refine ⟨_, rfl, ?_⟩; replace BK120 := Aside0.mk (blk_below (blk_later BK120.out) hb); replace HB := Aside0.mk (below_step (by repeat (first | (with_reducible first | exact HB.out | apply below_alloc | apply pw_below_drewN | apply below_drew1 | refine below_set ?_ GE120.out) | exact HB.out)) hb); (try clear hb); (try clear hb2); (try clear hk); (try clear hi)) | ((with_reducible refine gate_callee (f := 153) rfl ?_); refine goesL_ (some 70) rfl rfl Tryd.func153 (by kernel_rfl) rfl #[.string t122] rfl (by (try simp only [List.map_toArray, List.map_cons, List.map_nil]); first | done | rfl) ?_; (with_reducible refine (r08_May.calls k1 t122 true _ A42.out).mono ?_); rintro e w49 ⟨rfl, hb⟩; refine ⟨_, rfl, ?_⟩; replace BK120 := Aside0.mk (blk_below (blk_later BK120.out) hb); replace HB := Aside0.mk (below_step (by repeat (first | (with_reducible first | exact HB.out | apply below_alloc | apply pw_below_drewN | apply below_drew1 | refine below_set ?_ GE120.out) | exact HB.out)) hb); (try clear hb); (try clear hb2); (try clear hk); (try clear hi)))
     go_ret2
     exact ⟨by first | rfl | (simp [errW_none, errW_some] <;> rfl) | (simp [*, errW_none, errW_some] <;> rfl), by repeat (first | (with_reducible first | exact HB.out | apply below_alloc | apply pw_below_drewN | apply below_drew1 | refine below_set ?_ GE120.out) | exact HB.out)⟩
    replace c44 := Bool.eq_false_iff.mpr c44
    subst c44
    have H1 : (some ((⟨#[]⟩ : ByteArray), false)) = some (r1, r2) := by rw [if_neg (show ¬ (false = true) by decide)] at H; exact H
    clear H
    have H := H1
    clear H1
    simp only [Option.some.injEq, Prod.mk.injEq] at H
    obtain ⟨rfl, rfl⟩ := H
    go_wp2_with (first | ((with_reducible refine gate_callee (f := 151) rfl ?_); refine goesL_ (some 62) rfl rfl Tryd.func151 (by kernel_rfl) rfl #[.string t122] rfl (by (try simp only [List.map_toArray, List.map_cons, List.map_nil]); first | done | rfl) ?_; (with_reducible refine (r02_Loose.calls k1 t122 t123 t124 _ A37.out).mono ?_); rintro e w50 ⟨rfl, hb⟩; refine ⟨_, rfl, ?_⟩; replace BK120 := Aside0.mk (blk_below (blk_later BK120.out) hb); replace HB := Aside0.mk (below_step (by repeat (first | (with_reducible first | exact HB.out | apply below_alloc | apply pw_below_drewN | apply below_drew1 | refine below_set ?_ GE120.out) | exact HB.out)) hb); (try clear hb); (try clear hb2); (try clear hk); (try clear hi)) | ((with_reducible refine gate_callee (f := 153) rfl ?_); refine goesL_ (some 70) rfl rfl Tryd.func153 (by kernel_rfl) rfl #[.string t122] rfl (by (try simp only [List.map_toArray, List.map_cons, List.map_nil]); first | done | rfl) ?_; (with_reducible refine (r08_May.calls k1 t122 false _ A42.out).mono ?_); rintro e w51 ⟨rfl, hb⟩; refine ⟨_, rfl, ?_⟩; replace BK120 := Aside0.mk (blk_below (blk_later BK120.out) hb); replace HB := Aside0.mk (below_step (by repeat (first | (with_reducible first | exact HB.out | apply below_alloc | apply pw_below_drewN | apply below_drew1 | refine below_set ?_ GE120.out) | exact HB.out)) hb); (try clear hb); (try clear hb2); (try clear hk); (try clear hi)))
    go_ret2
    exact ⟨by first | rfl | (simp [errW_none, errW_some] <;> rfl) | (simp [*, errW_none, errW_some] <;> rfl), by repeat (first | (with_reducible first | exact HB.out | apply below_alloc | apply pw_below_drewN | apply below_drew1 | refine below_set ?_ GE120.out) | exact HB.out)⟩
   rw [if_neg c43] at H
   have c43b0 : (t124 == 0) = false := beq_eq_false_iff_ne.mpr c43
   have c43b1 : (t124 != 0) = true := bne_iff_ne.mpr c43
   simp only [Option.some.injEq, Prod.mk.injEq] at H
   obtain ⟨rfl, rfl⟩ := H
   go_wp2_with (first | ((with_reducible refine gate_callee (f := 151) rfl ?_); refine goesL_ (some 62) rfl rfl Tryd.func151 (by kernel_rfl) rfl #[.string t122] rfl (by (try simp only [List.map_toArray, List.map_cons, List.map_nil]); first | done | rfl) ?_; (with_reducible refine (r02_Loose.calls k1 t122 t123 t124 _ A37.out).mono ?_); rintro e w52 ⟨rfl, hb⟩; refine ⟨_, rfl, ?_⟩; replace BK120 := Aside0.mk (blk_below (blk_later BK120.out) hb); replace HB := Aside0.mk (below_step (by repeat (first | (with_reducible first | exact HB.out | apply below_alloc | apply pw_below_drewN | apply below_drew1 | refine below_set ?_ GE120.out) | exact HB.out)) hb); (try clear hb); (try clear hb2); (try clear hk); (try clear hi)) | ((with_reducible refine gate_callee (f := 153) rfl ?_); refine goesL_ (some 70) rfl rfl Tryd.func153 (by kernel_rfl) rfl #[.string t122] rfl (by (try simp only [List.map_toArray, List.map_cons, List.map_nil]); first | done | rfl) ?_; (with_reducible refine (r08_May.calls k1 t122 t126 _ A42.out).mono ?_); rintro e w53 ⟨rfl, hb⟩; refine ⟨_, rfl, ?_⟩; replace BK120 := Aside0.mk (blk_below (blk_later BK120.out) hb); replace HB := Aside0.mk (below_step (by repeat (first | (with_reducible first | exact HB.out | apply below_alloc | apply pw_below_drewN | apply below_drew1 | refine below_set ?_ GE120.out) | exact HB.out)) hb); (try clear hb); (try clear hb2); (try clear hk); (try clear hi)))
   go_ret2
   exact ⟨by first | rfl | (simp [errW_none, errW_some] <;> rfl) | (simp [*, errW_none, errW_some] <;> rfl), by repeat (first | (with_reducible first | exact HB.out | apply below_alloc | apply pw_below_drewN | apply below_drew1 | refine below_set ?_ GE120.out) | exact HB.out)⟩


/-! ### r13_Parse: function 105 -/
mutual
def r13_Parse.j0 : Nat → ByteArray → ByteArray → Int → Bool → Option (ByteArray × ByteArray × Int × ByteArray × ByteArray × Int)
 | 0, _, _, _, _ => none
 | k + 1, x0, x5, x6, x35 => if x35 = true then (some ((⟨#[]⟩ : ByteArray), (⟨#[]⟩ : ByteArray), 0, (⟨#[]⟩ : ByteArray), (⟨#[]⟩ : ByteArray), 2)) else ((r13_Port.f x5).bind fun t131 => ((r13_first.f k x0 x6 (⟨#[47, 63, 35]⟩ : ByteArray)).bind fun t133 => (if 0 ≤ x6 then (if x6 ≤ t133 then (if t133 ≤ (x0.size : Int) then (r13_Parse.l0 k x0 t133 (x0.extract (x6 : Int).toNat (t133 : Int).toNat) (-1) 0 x5 (⟨#[]⟩ : ByteArray) t131 (⟨#[]⟩ : ByteArray) (⟨#[]⟩ : ByteArray)) else (none)) else (none)) else (none))))
def r13_Parse.l0 : Nat → ByteArray → Int → ByteArray → Int → Int → ByteArray → ByteArray → Int → ByteArray → ByteArray → Option (ByteArray × ByteArray × Int × ByteArray × ByteArray × Int)
 | 0, _, _, _, _, _, _, _, _, _, _ => none
 | k + 1, x0, x8, x9, x10, x11, x133000, x133001, x133002, x133003, x133004 => if x11 < (x9.size : Int) then (if 0 ≤ x11 then (if (bt x9 x11) = 58 then (if (bt x9 x11) = 93 then (if (wrap64 (x11 + 1)) = (x9.size : Int) then (r13_Parse.l0 k x0 x8 x9 (-1) (wrap64 (x11 + 1)) x133000 x133001 x133002 x133003 x133004) else (r13_Parse.l0 k x0 x8 x9 x11 (wrap64 (x11 + 1)) x133000 x133001 x133002 x133003 x133004)) else (r13_Parse.l0 k x0 x8 x9 x11 (wrap64 (x11 + 1)) x133000 x133001 x133002 x133003 x133004)) else (if (bt x9 x11) = 93 then (if (wrap64 (x11 + 1)) = (x9.size : Int) then (r13_Parse.l0 k x0 x8 x9 (-1) (wrap64 (x11 + 1)) x133000 x133001 x133002 x133003 x133004) else (r13_Parse.l0 k x0 x8 x9 x10 (wrap64 (x11 + 1)) x133000 x133001 x133002 x133003 x133004)) else (r13_Parse.l0 k x0 x8 x9 x10 (wrap64 (x11 + 1)) x133000 x133001 x133002 x133003 x133004))) else (none)) else (if x10 ≥ 0 then (if 0 ≤ (wrap64 (x10 + 1)) then (if (wrap64 (x10 + 1)) ≤ (x9.size : Int) then ((r01_Number.f k (x9.extract ((wrap64 (x10 + 1)) : Int).toNat x9.size) 10).bind fun bt134 => (if (x9.extract ((wrap64 (x10 + 1)) : Int).toNat x9.size).toList = ([] : List UInt8) then (r13_Parse.j2 k x0 x8 x9 x10 (x9.extract ((wrap64 (x10 + 1)) : Int).toNat x9.size) bt134.1 false x133000 x133001 x133002 x133003 x133004) else (if bt134.2 = true then (if ((x9.extract ((wrap64 (x10 + 1)) : Int).toNat x9.size).size : Int) > 5 then (r13_Parse.j2 k x0 x8 x9 x10 (x9.extract ((wrap64 (x10 + 1)) : Int).toNat x9.size) bt134.1 true x133000 x133001 x133002 x133003 x133004) else (r13_Parse.j2 k x0 x8 x9 x10 (x9.extract ((wrap64 (x10 + 1)) : Int).toNat x9.size) bt134.1 (decide (bt134.1 > 65535)) x133000 x133001 x133002 x133003 x133004)) else (r13_Parse.j2 k x0 x8 x9 x10 (x9.extract ((wrap64 (x10 + 1)) : Int).toNat x9.size) bt134.1 true x133000 x133001 x133002 x133003 x133004)))) else (none)) else (none)) else (r13_Parse.j3 k x0 x8 x9 x133000 x133001 x133002 x133003 x133004))
def r13_Parse.j3 : Nat → ByteArray → Int → ByteArray → ByteArray → ByteArray → Int → ByteArray → ByteArray → Option (ByteArray × ByteArray × Int × ByteArray × ByteArray × Int)
 | 0, _, _, _, _, _, _, _, _ => none
 | k + 1, x0, x8, x9, x133000, x133001, x133002, x133003, x133004 => (r13_Host.f k x9).bind fun bt136 => (if bt136.2 = true then ((r13_first.f k x0 x8 (⟨#[35]⟩ : ByteArray)).bind fun t138 => ((r13_first.f k x0 x8 (⟨#[63]⟩ : ByteArray)).bind fun t139 => (if 0 ≤ x8 then (if x8 ≤ (mn t139 t138) then (if (mn t139 t138) ≤ (x0.size : Int) then (if 0 ≤ (mn t139 t138) then (if (mn t139 t138) ≤ t138 then (if t138 ≤ (x0.size : Int) then (if (x0.extract (x8 : Int).toNat ((mn t139 t138) : Int).toNat).toList = ([] : List UInt8) then (some (x133000, bt136.1, x133002, (⟨#[47]⟩ : ByteArray), x0.extract ((mn t139 t138) : Int).toNat (t138 : Int).toNat, 0)) else (some (x133000, bt136.1, x133002, x0.extract (x8 : Int).toNat ((mn t139 t138) : Int).toNat, x0.extract ((mn t139 t138) : Int).toNat (t138 : Int).toNat, 0))) else (none)) else (none)) else (none)) else (none)) else (none)) else (none)))) else (some ((⟨#[]⟩ : ByteArray), (⟨#[]⟩ : ByteArray), 0, (⟨#[]⟩ : ByteArray), (⟨#[]⟩ : ByteArray), 2)))
def r13_Parse.j2 : Nat → ByteArray → Int → ByteArray → Int → ByteArray → Int → Bool → ByteArray → ByteArray → Int → ByteArray → ByteArray → Option (ByteArray × ByteArray × Int × ByteArray × ByteArray × Int)
 | 0, _, _, _, _, _, _, _, _, _, _, _, _ => none
 | k + 1, x0, x8, x9, x10, x12, x13, x95, x133000, x133001, x133002, x133003, x133004 => if x95 = true then (some ((⟨#[]⟩ : ByteArray), (⟨#[]⟩ : ByteArray), 0, (⟨#[]⟩ : ByteArray), (⟨#[]⟩ : ByteArray), 2)) else (if x12.toList = ([] : List UInt8) then (if 0 ≤ x10 then (if x10 ≤ (x9.size : Int) then (r13_Parse.j3 k x0 x8 (x9.extract 0 (x10 : Int).toNat) x133000 x133001 x133002 x133003 x133004) else (none)) else (none)) else (if 0 ≤ x10 then (if x10 ≤ (x9.size : Int) then (r13_Parse.j3 k x0 x8 (x9.extract 0 (x10 : Int).toNat) x133000 x133001 x13 x133003 x133004) else (none)) else (none)))
end
def r13_Parse.f (k : Nat) (a0 : ByteArray) : Option (ByteArray × ByteArray × Int × ByteArray × ByteArray × Int) := if (a0.size : Int) > 2000 then (some ((⟨#[]⟩ : ByteArray), (⟨#[]⟩ : ByteArray), 0, (⟨#[]⟩ : ByteArray), (⟨#[]⟩ : ByteArray), 3)) else ((r01_Plain.f k a0).bind fun t128 => ((r13_scheme.f k a0).bind fun bt129 => (if t128 = true then (r13_Parse.j0 k a0 bt129.1 bt129.2 (bt129.2 == 0)) else (r13_Parse.j0 k a0 bt129.1 bt129.2 true))))
theorem cell_twice {w : World} {g : Nat} {x : Value} (h3 : w.cell? ⟨g, 3, none⟩ = some x) : ∀ (n : Nat) (a b c d : Value), (((((w.setCell ⟨g, 1, none⟩ a).drewN n).setCell ⟨g, 3, none⟩ b).setCell ⟨g, 4, none⟩ c).setCell ⟨g, 3, none⟩ d).cell? ⟨g, 3, none⟩ = some d := by
 intro n a b c d
 obtain ⟨x1, h1⟩ := cell?_setCell_some (p := ⟨g, 1, none⟩) (x := a) h3
 have h2 : ((w.setCell ⟨g, 1, none⟩ a).drewN n).cell? ⟨g, 3, none⟩ = some x1 := (by simpa using h1)
 obtain ⟨x3, h4⟩ := cell?_setCell_some (p := ⟨g, 3, none⟩) (x := b) h2
 obtain ⟨x4, h5⟩ := cell?_setCell_some (p := ⟨g, 4, none⟩) (x := c) h4
 exact World.cell?_setCell_same' _ _ _ (by rw [h5]; rfl)
set_option maxHeartbeats 8000000 in
set_option maxRecDepth 100000 in
theorem r13_Parse.calls (k : Nat) (a0 : ByteArray) (r1 : ByteArray) (r2 : ByteArray) (r3 : Int) (r4 : ByteArray) (r5 : ByteArray) (r6 : Int) (w : World) (h : r13_Parse.f k a0 = some (r1, r2, r3, r4, r5, r6)) :
  Calls Tryd.prog 105 #[.string a0] w fun e w' => e = .returned (.tuple #[.agg #[.string r1, .string r2, .int .i64 r3, .string r4, .string r5], .int .i64 r6]) ∧ Below w.heap.size w w' := by
 have hu45 := Tryd.underlying45
 have HB := Aside0.mk (Below.refl w.heap.size w)
 have H := h
 unfold r13_Parse.f at H
 clear h
 by_cases c2 : (a0.size : Int) > 2000
 ·rw [if_pos c2] at H
  have c2b0 : decide (2000 < (a0.size : Int)) = true := decide_eq_true c2
  have c2b1 : decide (2000 < a0.size) = true := decide_eq_true (by omega)
  clear c2
  simp only [Option.some.injEq, Prod.mk.injEq] at H
  obtain ⟨rfl, rfl, rfl, rfl, rfl, rfl⟩ := H
  go_enter Tryd.func105, Tryd.ntmps105
  go_wp2_with (first | ((with_reducible refine gate_dst (N := 2) rfl ?_); (try (refine gate_guard (by rfl) ?_; dsimp only)); refine box_event ?hg (N := 2) ?hd (cs := #[.string (⟨#[]⟩ : ByteArray), .string (⟨#[]⟩ : ByteArray), .int .i64 0, .string (⟨#[]⟩ : ByteArray), .string (⟨#[]⟩ : ByteArray)]) (t := 45) ?hr ?_; (case hd => rfl); (case hg => rfl); (case hr => first | (go_simp; done) | (go_simp; rfl)); intro gb127 hg w3 hbox hb; have BK127 := Aside0.mk (hbox); have GW127 := Aside0.mk ((by rw [hg]; exact (below_size (bel_later HB.out)) : w.heap.size ≤ gb127)); have GE127 := Aside0.mk ((by rw [hg]; exact (below_size (bel_later HB.out)) : w.heap.size ≤ gb127)); replace HB := Aside0.mk (below_step (bel_later HB.out) hb); clear hb hbox hg; have hcz4_0 : w3.cell? ⟨gb127, 0, none⟩ = some (.string (⟨#[]⟩ : ByteArray)) := (blk_cell BK127.out 0).trans rfl; have hcz4_1 : w3.cell? ⟨gb127, 1, none⟩ = some (.string (⟨#[]⟩ : ByteArray)) := (blk_cell BK127.out 1).trans rfl; have hcz4_2 : w3.cell? ⟨gb127, 2, none⟩ = some (.int .i64 0) := (blk_cell BK127.out 2).trans rfl; have hcz4_3 : w3.cell? ⟨gb127, 3, none⟩ = some (.string (⟨#[]⟩ : ByteArray)) := (blk_cell BK127.out 3).trans rfl; have hcz4_4 : w3.cell? ⟨gb127, 4, none⟩ = some (.string (⟨#[]⟩ : ByteArray)) := (blk_cell BK127.out 4).trans rfl; have hq1 := fun j => blk_frozen BK127.out j; have hu4 := cell_twice hcz4_3))
  refine bodyPost_ret (results_ct rfl _ _ gb127 45 #[.string (⟨#[]⟩ : ByteArray), .string (⟨#[]⟩ : ByteArray), .int .i64 0, .string (⟨#[]⟩ : ByteArray), .string (⟨#[]⟩ : ByteArray)] (0, 0) _ rfl (blk_sets BK127.out) Tryd.underlying45 rfl (by kernel_rfl)) rfl ?_
  exact ⟨by first | rfl | (simp [errW_none, errW_some] <;> rfl) | (simp [*, errW_none, errW_some] <;> rfl), by repeat (first | (with_reducible first | exact HB.out | apply below_alloc | apply pw_below_drewN | apply below_drew1 | refine below_set ?_ GE127.out) | exact HB.out)⟩
 rw [if_neg c2] at H
 have c2b0 : decide (2000 < (a0.size : Int)) = false := decide_eq_false c2
 have c2b1 : decide (2000 < a0.size) = false := decide_eq_false (by omega)
 clear c2
 replace H := Option.bind_eq_some_iff.mp H
 obtain ⟨t128, A50, H⟩ := H
 try dsimp only at H
 have A5 := Aside0.mk A50
 clear A50
 replace H := Option.bind_eq_some_iff.mp H
 obtain ⟨⟨t129, t130⟩, A60, H⟩ := H
 try dsimp only at H
 have A6 := Aside0.mk A60
 clear A60
 have HC7 := Aside0.mk H
 clear H
 go_enter Tryd.func105, Tryd.ntmps105
 go_upto_region 5 with (first | ((with_reducible refine gate_dst (N := 2) rfl ?_); (try (refine gate_guard (by rfl) ?_; dsimp only)); refine box_event ?hg (N := 2) ?hd (cs := #[.string (⟨#[]⟩ : ByteArray), .string (⟨#[]⟩ : ByteArray), .int .i64 0, .string (⟨#[]⟩ : ByteArray), .string (⟨#[]⟩ : ByteArray)]) (t := 45) ?hr ?_; (case hd => rfl); (case hg => rfl); (case hr => first | (go_simp; done) | (go_simp; rfl)); intro gb127 hg w8 hbox hb; have BK127 := Aside0.mk (hbox); have GW127 := Aside0.mk ((by rw [hg]; exact (below_size (bel_later HB.out)) : w.heap.size ≤ gb127)); have GE127 := Aside0.mk ((by rw [hg]; exact (below_size (bel_later HB.out)) : w.heap.size ≤ gb127)); replace HB := Aside0.mk (below_step (bel_later HB.out) hb); clear hb hbox hg) | ((with_reducible refine gate_callee (f := 54) rfl ?_); refine goesL_ (some 24) rfl rfl Tryd.func54 (by kernel_rfl) rfl #[.string a0] rfl (by (try simp only [List.map_toArray, List.map_cons, List.map_nil]); first | done | rfl) ?_; (with_reducible refine (r01_Plain.calls k a0 t128 _ A5.out).mono ?_); rintro e w' ⟨rfl, ⟨nd, rfl⟩⟩; refine ⟨_, rfl, ?_⟩) | ((with_reducible refine gate_callee (f := 131) rfl ?_); refine goesL_ (some 27) rfl rfl Tryd.func131 (by kernel_rfl) rfl #[.string a0] rfl (by (try simp only [List.map_toArray, List.map_cons, List.map_nil]); first | done | rfl) ?_; (with_reducible refine (r13_scheme.calls k a0 t129 t130 _ A6.out).mono ?_); rintro e w9 ⟨rfl, hb⟩; refine ⟨_, rfl, ?_⟩; replace BK127 := Aside0.mk (blk_below (blk_later BK127.out) hb); replace HB := Aside0.mk (below_step (bel_later HB.out) hb); (try clear hb); (try clear hb2); (try clear hk); (try clear hi)))
 (try simp only [Act.put, List.setIfInBounds_toArray, List.set_cons_zero, List.set_cons_succ])
 go_cut [35] (fun v35 wc => ∃ (kq : Nat) (x35_6 : Bool), v35 = .bool x35_6 ∧ Aside0 (r13_Parse.j0 kq a0 t129 t130 x35_6 = some (r1, r2, r3, r4, r5, r6)) ∧ Aside0 (kq ≤ k) ∧ Aside0 (wc.heap[gb127]? = some (.cells #[.string (⟨#[]⟩ : ByteArray), .string (⟨#[]⟩ : ByteArray), .int .i64 0, .string (⟨#[]⟩ : ByteArray), .string (⟨#[]⟩ : ByteArray)] 45 (0, 0))) ∧ Aside0 (Below w.heap.size w wc))
 case first =>
  have H := HC7.out
  clear HC7
  by_cases c10 : t128 = true
  ·subst c10
   have H1 : (r13_Parse.j0 k a0 t129 t130 (t130 == 0)) = some (r1, r2, r3, r4, r5, r6) := by rw [if_pos rfl] at H; exact H
   clear H
   have H := H1
   clear H1
   have H' := Aside0.mk H
   clear H
   go_wp2
   go_meet
   case rel => exact ⟨_, ((t130 == 0)), (by first | rfl | (simp [bne, *]; done) | (simp; done)), H', ⟨by first | omega | exact Nat.le_refl _⟩, ⟨by (with_reducible repeat (first | refine blk_drewN ?_ _ | refine blk_drew ?_ | refine blk_alloc ?_ _)); exact BK127.out⟩, ⟨by repeat (first | (with_reducible first | exact HB.out | apply below_alloc | apply pw_below_drewN | apply below_drew1 | refine below_set ?_ GE127.out) | exact HB.out)⟩⟩
  replace c10 := Bool.eq_false_iff.mpr c10
  subst c10
  have H1 : (r13_Parse.j0 k a0 t129 t130 true) = some (r1, r2, r3, r4, r5, r6) := by rw [if_neg (show ¬ (false = true) by decide)] at H; exact H
  clear H
  have H := H1
  clear H1
  have H' := Aside0.mk H
  clear H
  go_wp2
  go_meet
  case rel => exact ⟨_, (true), (by first | rfl | (simp [bne, *]; done) | (simp; done)), H', ⟨by first | omega | exact Nat.le_refl _⟩, ⟨by (with_reducible repeat (first | refine blk_drewN ?_ _ | refine blk_drew ?_ | refine blk_alloc ?_ _)); exact BK127.out⟩, ⟨by repeat (first | (with_reducible first | exact HB.out | apply below_alloc | apply pw_below_drewN | apply below_drew1 | refine below_set ?_ GE127.out) | exact HB.out)⟩⟩
 case rest =>
  clear HC7
  try clear c1
  try clear c2
  try clear c2b0
  try clear c2b1
  try clear p2
  try clear c5
  try clear c10
  try clear hcz4_0
  try clear hcz4_1
  try clear hcz4_2
  try clear hcz4_3
  try clear hcz4_4
  try clear hfz4_0
  try clear hfz4_1
  try clear hfz4_2
  try clear hfz4_3
  try clear hfz4_4
  obtain ⟨kq, x35_6, rfl, HA, HJ6, BK127, HB⟩ := hcut
  cases kq with
  | zero => exact absurd HA.out (by simp [r13_Parse.j0])
  | succ kj6 =>
   have H := HA.out
   clear HA
   simp only [r13_Parse.j0] at H
   by_cases c11 : x35_6 = true
   ·subst c11
    have H1 : (some ((⟨#[]⟩ : ByteArray), (⟨#[]⟩ : ByteArray), 0, (⟨#[]⟩ : ByteArray), (⟨#[]⟩ : ByteArray), 2)) = some (r1, r2, r3, r4, r5, r6) := by rw [if_pos rfl] at H; exact H
    clear H
    have H := H1
    clear H1
    simp only [Option.some.injEq, Prod.mk.injEq] at H
    obtain ⟨rfl, rfl, rfl, rfl, rfl, rfl⟩ := H
    have hcz12_0 : wc.cell? ⟨gb127, 0, none⟩ = some (.string (⟨#[]⟩ : ByteArray)) := (blk_cell BK127.out 0).trans rfl
    have hcz12_1 : wc.cell? ⟨gb127, 1, none⟩ = some (.string (⟨#[]⟩ : ByteArray)) := (blk_cell BK127.out 1).trans rfl
    have hcz12_2 : wc.cell? ⟨gb127, 2, none⟩ = some (.int .i64 0) := (blk_cell BK127.out 2).trans rfl
    have hcz12_3 : wc.cell? ⟨gb127, 3, none⟩ = some (.string (⟨#[]⟩ : ByteArray)) := (blk_cell BK127.out 3).trans rfl
    have hcz12_4 : wc.cell? ⟨gb127, 4, none⟩ = some (.string (⟨#[]⟩ : ByteArray)) := (blk_cell BK127.out 4).trans rfl
    have hq2 := fun j => blk_frozen BK127.out j
    go_wp2
    refine bodyPost_ret (results_ct rfl _ _ gb127 45 #[.string (⟨#[]⟩ : ByteArray), .string (⟨#[]⟩ : ByteArray), .int .i64 0, .string (⟨#[]⟩ : ByteArray), .string (⟨#[]⟩ : ByteArray)] (0, 0) _ rfl (blk_sets BK127.out) Tryd.underlying45 rfl (by kernel_rfl)) rfl ?_
    exact ⟨by first | rfl | (simp [errW_none, errW_some] <;> rfl) | (simp [*, errW_none, errW_some] <;> rfl), by repeat (first | (with_reducible first | exact HB.out | apply below_alloc | apply pw_below_drewN | apply below_drew1 | refine below_set ?_ GE127.out) | exact HB.out)⟩
   replace c11 := Bool.eq_false_iff.mpr c11
   subst c11
   have H1 : ((r13_Port.f t129).bind fun t131 => ((r13_first.f kj6 a0 t130 (⟨#[47, 63, 35]⟩ : ByteArray)).bind fun t133 => (if 0 ≤ t130 then (if t130 ≤ t133 then (if t133 ≤ (a0.size : Int) then (r13_Parse.l0 kj6 a0 t133 (a0.extract (t130 : Int).toNat (t133 : Int).toNat) (-1) 0 t129 (⟨#[]⟩ : ByteArray) t131 (⟨#[]⟩ : ByteArray) (⟨#[]⟩ : ByteArray)) else (none)) else (none)) else (none)))) = some (r1, r2, r3, r4, r5, r6) := by rw [if_neg (show ¬ (false = true) by decide)] at H; exact H
   clear H
   have H := H1
   clear H1
   replace H := Option.bind_eq_some_iff.mp H
   obtain ⟨t131, A130, H⟩ := H
   try dsimp only at H
   have A13 := Aside0.mk A130
   clear A130
   replace H := Option.bind_eq_some_iff.mp H
   obtain ⟨t133, A140, H⟩ := H
   try dsimp only at H
   have A14 := Aside0.mk A140
   clear A140
   by_cases c15 : 0 ≤ t130
   ·rw [if_pos c15] at H
    have c15b0 := eq_true c15
    have c15b1 : decide (0 ≤ t130) = true := decide_eq_true c15
    clear c15
    by_cases c16 : t130 ≤ t133
    ·rw [if_pos c16] at H
     have c16b0 := eq_true c16
     have c16b1 : decide (t130 ≤ t133) = true := decide_eq_true c16
     clear c16
     by_cases c17 : t133 ≤ (a0.size : Int)
     ·rw [if_pos c17] at H
      have c17b0 := eq_true c17
      have c17b1 : decide (t133 ≤ (a0.size : Int)) = true := decide_eq_true c17
      clear c17
      have H' := Aside0.mk H
      clear H
      go_wp2_with (first | ((with_reducible refine gate_callee (f := 89) rfl ?_); refine goesL_ (some 39) rfl rfl Tryd.func89 (by kernel_rfl) rfl #[.string t129] rfl (by (try simp only [List.map_toArray, List.map_cons, List.map_nil]); first | done | rfl) ?_; (with_reducible refine (r13_Port.calls t129 t131 _ A13.out).mono ?_); rintro e w' ⟨rfl, ⟨nd, rfl⟩⟩; refine ⟨_, rfl, ?_⟩; (try (rw [drewN_self wc]; generalize hq_ : World.drewN wc _ = wc; have n0_ : Aside0 (wc.heap[gb127]? = some (.cells #[.string (⟨#[]⟩ : ByteArray), .string (⟨#[]⟩ : ByteArray), .int .i64 0, .string (⟨#[]⟩ : ByteArray), .string (⟨#[]⟩ : ByteArray)] 45 (0, 0))) := ⟨by rw [← hq_]; exact (blk_later BK127.out)⟩; have n1_ : Aside0 (Below w.heap.size w wc) := ⟨by rw [← hq_]; exact (bel_later HB.out)⟩; clear BK127 HB hq_; have BK127 := n0_; have HB := n1_; clear n0_ n1_))) | ((with_reducible refine gate_dst (N := 7) rfl ?_); (try (refine gate_guard (by rfl) ?_; dsimp only)); refine box_event ?hg (N := 7) ?hd (cs := #[.string (⟨#[]⟩ : ByteArray), .string (⟨#[]⟩ : ByteArray), .int .i64 0, .string (⟨#[]⟩ : ByteArray), .string (⟨#[]⟩ : ByteArray)]) (t := 45) ?hr ?_; (case hd => rfl); (case hg => rfl); (case hr => first | (go_simp; done) | (go_simp; rfl)); intro gb132 hg w18 hbox hb; have BK132 := Aside0.mk (hbox); have GW132 := Aside0.mk ((by rw [hg]; exact (below_size (bel_later HB.out)) : w.heap.size ≤ gb132)); have GE132 := Aside0.mk ((by rw [hg]; exact (below_size (bel_later HB.out)) : w.heap.size ≤ gb132)); have NB127_132 := Aside0.mk ((by rw [hg]; exact Nat.ne_of_lt (blk_lt (blk_later BK127.out)) : gb127 ≠ gb132)); have NB132_127 := Aside0.mk ((by rw [hg]; exact Nat.ne_of_gt (blk_lt (blk_later BK127.out)) : gb132 ≠ gb127)); replace BK127 := Aside0.mk (blk_below (blk_later BK127.out) hb); replace HB := Aside0.mk (below_step (bel_later HB.out) hb); clear hb hbox hg; have hnb19 := NB132_127.out; have hnc19 := NB127_132.out; have hcz20_0 : w18.cell? ⟨gb132, 0, none⟩ = some (.string (⟨#[]⟩ : ByteArray)) := (blk_cell BK132.out 0).trans rfl; have hcz20_1 : w18.cell? ⟨gb132, 1, none⟩ = some (.string (⟨#[]⟩ : ByteArray)) := (blk_cell BK132.out 1).trans rfl; have hcz20_2 : w18.cell? ⟨gb132, 2, none⟩ = some (.int .i64 0) := (blk_cell BK132.out 2).trans rfl; have hcz20_3 : w18.cell? ⟨gb132, 3, none⟩ = some (.string (⟨#[]⟩ : ByteArray)) := (blk_cell BK132.out 3).trans rfl; have hcz20_4 : w18.cell? ⟨gb132, 4, none⟩ = some (.string (⟨#[]⟩ : ByteArray)) := (blk_cell BK132.out 4).trans rfl; have hq3 := fun j => blk_frozen BK132.out j; have hu20 := cell_twice hcz20_3) | ((with_reducible refine gate_callee (f := 132) rfl ?_); refine goesL_ (some 43) rfl rfl Tryd.func132 (by kernel_rfl) rfl #[.string a0, .int .i64 t130, .string (⟨#[47, 63, 35]⟩ : ByteArray)] rfl (by (try simp only [List.map_toArray, List.map_cons, List.map_nil]); first | done | rfl) ?_; (with_reducible refine (r13_first.calls kj6 a0 t130 (⟨#[47, 63, 35]⟩ : ByteArray) t133 _ A14.out).mono ?_); rintro e w' ⟨rfl, ⟨nd, rfl⟩⟩; refine ⟨_, rfl, ?_⟩))
      generalize a0.extract (t130 : Int).toNat (t133 : Int).toNat = yhost at *
      go_loopg [10, 11] kj6 (fun kq v10 v11 w' => ∃ (x10_2 : Int) (x11_2 : Int), v10 = .int .i64 x10_2 ∧ v11 = .int .i64 x11_2 ∧ Aside0 (r13_Parse.l0 kq a0 t133 yhost x10_2 x11_2 t129 (⟨#[]⟩ : ByteArray) t131 (⟨#[]⟩ : ByteArray) (⟨#[]⟩ : ByteArray) = some (r1, r2, r3, r4, r5, r6)) ∧ Aside0 (kq ≤ kj6) ∧ Aside0 (w'.heap[gb127]? = some (.cells #[.string (⟨#[]⟩ : ByteArray), .string (⟨#[]⟩ : ByteArray), .int .i64 0, .string (⟨#[]⟩ : ByteArray), .string (⟨#[]⟩ : ByteArray)] 45 (0, 0))) ∧ Aside0 (w'.heap[gb132]? = some (.cells #[.string t129, .string (⟨#[]⟩ : ByteArray), .int .i64 t131, .string (⟨#[]⟩ : ByteArray), .string (⟨#[]⟩ : ByteArray)] 45 (0, 0))) ∧ Aside0 (Below w.heap.size w w'))
      case atStart => exact ⟨((-1)), (0), (by first | rfl | (simp [bne, *]; done) | (simp; done)), (by first | rfl | (simp [bne, *]; done) | (simp; done)), H', ⟨Nat.le_refl _⟩, ⟨by (with_reducible repeat (first | refine blk_drewN ?_ _ | refine blk_drew ?_ | refine blk_alloc ?_ _)); refine blk_far ?_ NB127_132.out _; refine blk_far ?_ NB127_132.out _; refine blk_far ?_ NB127_132.out _; refine blk_far ?_ NB127_132.out _; refine blk_far ?_ NB127_132.out _; (with_reducible repeat (first | refine blk_drewN ?_ _ | refine blk_drew ?_ | refine blk_alloc ?_ _)); exact BK127.out⟩, ⟨by (with_reducible repeat (first | refine blk_drewN ?_ _ | refine blk_drew ?_ | refine blk_alloc ?_ _)); refine blk_put (cs := #[.string t129, .string (⟨#[]⟩ : ByteArray), .int .i64 t131, .string (⟨#[]⟩ : ByteArray), .string (⟨#[]⟩ : ByteArray)]) ?_ 4 _ rfl; refine blk_put (cs := #[.string t129, .string (⟨#[]⟩ : ByteArray), .int .i64 t131, .string (⟨#[]⟩ : ByteArray), .string (⟨#[]⟩ : ByteArray)]) ?_ 3 _ rfl; refine blk_put (cs := #[.string t129, .string (⟨#[]⟩ : ByteArray), .int .i64 0, .string (⟨#[]⟩ : ByteArray), .string (⟨#[]⟩ : ByteArray)]) ?_ 2 _ rfl; refine blk_put (cs := #[.string t129, .string (⟨#[]⟩ : ByteArray), .int .i64 0, .string (⟨#[]⟩ : ByteArray), .string (⟨#[]⟩ : ByteArray)]) ?_ 1 _ rfl; refine blk_put (cs := #[.string (⟨#[]⟩ : ByteArray), .string (⟨#[]⟩ : ByteArray), .int .i64 0, .string (⟨#[]⟩ : ByteArray), .string (⟨#[]⟩ : ByteArray)]) ?_ 0 _ rfl; (with_reducible repeat (first | refine blk_drewN ?_ _ | refine blk_drew ?_ | refine blk_alloc ?_ _)); exact BK132.out⟩, ⟨by repeat (first | (with_reducible first | exact HB.out | apply below_alloc | apply pw_below_drewN | apply below_drew1 | refine below_set ?_ GE127.out | refine below_set ?_ GE132.out) | exact HB.out)⟩⟩
      case round =>
       clear H'
       try clear c1
       try clear c2
       try clear c2b0
       try clear c2b1
       try clear p2
       try clear c5
       try clear c8
       try clear c10
       try clear c11
       try clear c13
       try clear c15
       try clear c15b0
       try clear c15b1
       try clear c16
       try clear c16b0
       try clear c16b1
       try clear c17
       try clear c17b0
       try clear c17b1
       try clear c19
       try clear hcz12_0
       try clear hcz12_1
       try clear hcz12_2
       try clear hcz12_3
       try clear hcz12_4
       try clear hcz20_0
       try clear hcz20_1
       try clear hcz20_2
       try clear hcz20_3
       try clear hcz20_4
       try clear hcz4_0
       try clear hcz4_1
       try clear hcz4_2
       try clear hcz4_3
       try clear hcz4_4
       try clear hfz12_0
       try clear hfz12_1
       try clear hfz12_2
       try clear hfz12_3
       try clear hfz12_4
       try clear hfz20_0
       try clear hfz20_1
       try clear hfz20_2
       try clear hfz20_3
       try clear hfz20_4
       try clear hfz4_0
       try clear hfz4_1
       try clear hfz4_2
       try clear hfz4_3
       try clear hfz4_4
       try clear p2
       obtain ⟨x10_2, x11_2, rfl, rfl, HA, HK2, BK127, BK132, HB⟩ := hrel
       cases gk with
       | zero => exact absurd HA.out (by simp [r13_Parse.l0])
       | succ k2 =>
        have H := HA.out
        clear HA
        simp only [r13_Parse.l0] at H
        by_cases c21 : x11_2 < (yhost.size : Int)
        ·rw [if_pos c21] at H
         have c21b0 : decide (x11_2 < (yhost.size : Int)) = true := decide_eq_true c21
         clear c21
         by_cases c22 : 0 ≤ x11_2
         ·rw [if_pos c22] at H
          have c22b0 : decide (0 ≤ x11_2) = true := decide_eq_true c22
          clear c22
          by_cases c24 : (bt yhost x11_2) = 58
          ·rw [if_pos c24] at H
           have c24b0 : ((bt yhost x11_2) == 58) = true := beq_iff_eq.mpr c24
           have c24b1 : ((bt yhost x11_2) != 58) = false := bne_eq_false_iff_eq.mpr c24
           clear c24
           by_cases c26 : (bt yhost x11_2) = 93
           ·exact absurd (c26.symm.trans (eq_of_beq c24b0)) (by decide)
           rw [if_neg c26] at H
           have c26b0 : ((bt yhost x11_2) == 93) = false := beq_eq_false_iff_ne.mpr c26
           have c26b1 : ((bt yhost x11_2) != 93) = true := bne_iff_ne.mpr c26
           have H' := Aside0.mk H
           clear H
           have p23 : 0 ≤ (x11_2 : Int) := of_decide_eq_true (by first | (with_reducible assumption) | assumption)
           have q23 : x11_2 < (yhost.size : Int) := of_decide_eq_true (by first | (with_reducible assumption) | assumption)
           have hx23 := bt_at yhost x11_2
           replace p23 := eq_true p23
           replace q23 := eq_true q23
           have p25 : 0 ≤ (x11_2 : Int) := of_decide_eq_true (by first | (with_reducible assumption) | assumption)
           have q25 : x11_2 < (yhost.size : Int) := of_decide_eq_true (by first | (with_reducible assumption) | assumption)
           have hx25 := bt_at yhost x11_2
           replace p25 := eq_true p25
           replace q25 := eq_true q25
           go_wp2
           go_roundg k2
           case measure => have := HJ6.out; have := HK2.out; omega
           case rel => exact ⟨(x11_2), (wrap64 (x11_2 + 1)), (by first | rfl | (simp [bne, *]; done) | (simp; done)), (by first | rfl | (simp [bne, *]; done) | (simp; done)), H', ⟨by have := HJ6.out; have := HK2.out; omega⟩, ⟨by (with_reducible repeat (first | refine blk_drewN ?_ _ | refine blk_drew ?_ | refine blk_alloc ?_ _)); exact BK127.out⟩, ⟨by (with_reducible repeat (first | refine blk_drewN ?_ _ | refine blk_drew ?_ | refine blk_alloc ?_ _)); exact BK132.out⟩, ⟨by repeat (first | (with_reducible first | exact HB.out | apply below_alloc | apply pw_below_drewN | apply below_drew1 | refine below_set ?_ GE127.out | refine below_set ?_ GE132.out) | exact HB.out)⟩⟩
          rw [if_neg c24] at H
          have c24b0 : ((bt yhost x11_2) == 58) = false := beq_eq_false_iff_ne.mpr c24
          have c24b1 : ((bt yhost x11_2) != 58) = true := bne_iff_ne.mpr c24
          by_cases c29 : (bt yhost x11_2) = 93
          ·rw [if_pos c29] at H
           have c29b0 : ((bt yhost x11_2) == 93) = true := beq_iff_eq.mpr c29
           have c29b1 : ((bt yhost x11_2) != 93) = false := bne_eq_false_iff_eq.mpr c29
           clear c29
           by_cases c30 : (wrap64 (x11_2 + 1)) = (yhost.size : Int)
           ·rw [if_pos c30] at H
            have c30b0 : ((wrap64 (x11_2 + 1)) == (yhost.size : Int)) = true := beq_iff_eq.mpr c30
            have c30b1 : ((wrap64 (x11_2 + 1)) != (yhost.size : Int)) = false := bne_eq_false_iff_eq.mpr c30
            clear c30
            have H' := Aside0.mk H
            clear H
            have p23 : 0 ≤ (x11_2 : Int) := of_decide_eq_true (by first | (with_reducible assumption) | assumption)
            have q23 : x11_2 < (yhost.size : Int) := of_decide_eq_true (by first | (with_reducible assumption) | assumption)
            have hx23 := bt_at yhost x11_2
            replace p23 := eq_true p23
            replace q23 := eq_true q23
            have p28 : 0 ≤ (x11_2 : Int) := of_decide_eq_true (by first | (with_reducible assumption) | assumption)
            have q28 : x11_2 < (yhost.size : Int) := of_decide_eq_true (by first | (with_reducible assumption) | assumption)
            have hx28 := bt_at yhost x11_2
            replace p28 := eq_true p28
            replace q28 := eq_true q28
            go_wp2
            go_roundg k2
            case measure => have := HJ6.out; have := HK2.out; omega
            case rel => exact ⟨((-1)), (wrap64 (x11_2 + 1)), (by first | rfl | (simp [bne, *]; done) | (simp; done)), (by first | rfl | (simp [bne, *]; done) | (simp; done)), H', ⟨by have := HJ6.out; have := HK2.out; omega⟩, ⟨by (with_reducible repeat (first | refine blk_drewN ?_ _ | refine blk_drew ?_ | refine blk_alloc ?_ _)); exact BK127.out⟩, ⟨by (with_reducible repeat (first | refine blk_drewN ?_ _ | refine blk_drew ?_ | refine blk_alloc ?_ _)); exact BK132.out⟩, ⟨by repeat (first | (with_reducible first | exact HB.out | apply below_alloc | apply pw_below_drewN | apply below_drew1 | refine below_set ?_ GE127.out | refine below_set ?_ GE132.out) | exact HB.out)⟩⟩
           rw [if_neg c30] at H
           have c30b0 : ((wrap64 (x11_2 + 1)) == (yhost.size : Int)) = false := beq_eq_false_iff_ne.mpr c30
           have c30b1 : ((wrap64 (x11_2 + 1)) != (yhost.size : Int)) = true := bne_iff_ne.mpr c30
           have H' := Aside0.mk H
           clear H
           have p23 : 0 ≤ (x11_2 : Int) := of_decide_eq_true (by first | (with_reducible assumption) | assumption)
           have q23 : x11_2 < (yhost.size : Int) := of_decide_eq_true (by first | (with_reducible assumption) | assumption)
           have hx23 := bt_at yhost x11_2
           replace p23 := eq_true p23
           replace q23 := eq_true q23
           have p28 : 0 ≤ (x11_2 : Int) := of_decide_eq_true (by first | (with_reducible assumption) | assumption)
           have q28 : x11_2 < (yhost.size : Int) := of_decide_eq_true (by first | (with_reducible assumption) | assumption)
           have hx28 := bt_at yhost x11_2
           replace p28 := eq_true p28
           replace q28 := eq_true q28
           go_wp2
           go_roundg k2
           case measure => have := HJ6.out; have := HK2.out; omega
           case rel => exact ⟨(x10_2), (wrap64 (x11_2 + 1)), (by first | rfl | (simp [bne, *]; done) | (simp; done)), (by first | rfl | (simp [bne, *]; done) | (simp; done)), H', ⟨by have := HJ6.out; have := HK2.out; omega⟩, ⟨by (with_reducible repeat (first | refine blk_drewN ?_ _ | refine blk_drew ?_ | refine blk_alloc ?_ _)); exact BK127.out⟩, ⟨by (with_reducible repeat (first | refine blk_drewN ?_ _ | refine blk_drew ?_ | refine blk_alloc ?_ _)); exact BK132.out⟩, ⟨by repeat (first | (with_reducible first | exact HB.out | apply below_alloc | apply pw_below_drewN | apply below_drew1 | refine below_set ?_ GE127.out | refine below_set ?_ GE132.out) | exact HB.out)⟩⟩
          rw [if_neg c29] at H
          have c29b0 : ((bt yhost x11_2) == 93) = false := beq_eq_false_iff_ne.mpr c29
          have c29b1 : ((bt yhost x11_2) != 93) = true := bne_iff_ne.mpr c29
          have H' := Aside0.mk H
          clear H
          have p23 : 0 ≤ (x11_2 : Int) := of_decide_eq_true (by first | (with_reducible assumption) | assumption)
          have q23 : x11_2 < (yhost.size : Int) := of_decide_eq_true (by first | (with_reducible assumption) | assumption)
          have hx23 := bt_at yhost x11_2
          replace p23 := eq_true p23
          replace q23 := eq_true q23
          have p28 : 0 ≤ (x11_2 : Int) := of_decide_eq_true (by first | (with_reducible assumption) | assumption)
          have q28 : x11_2 < (yhost.size : Int) := of_decide_eq_true (by first | (with_reducible assumption) | assumption)
          have hx28 := bt_at yhost x11_2
          replace p28 := eq_true p28
          replace q28 := eq_true q28
          go_wp2
          go_roundg k2
          case measure => have := HJ6.out; have := HK2.out; omega
          case rel => exact ⟨(x10_2), (wrap64 (x11_2 + 1)), (by first | rfl | (simp [bne, *]; done) | (simp; done)), (by first | rfl | (simp [bne, *]; done) | (simp; done)), H', ⟨by have := HJ6.out; have := HK2.out; omega⟩, ⟨by (with_reducible repeat (first | refine blk_drewN ?_ _ | refine blk_drew ?_ | refine blk_alloc ?_ _)); exact BK127.out⟩, ⟨by (with_reducible repeat (first | refine blk_drewN ?_ _ | refine blk_drew ?_ | refine blk_alloc ?_ _)); exact BK132.out⟩, ⟨by repeat (first | (with_reducible first | exact HB.out | apply below_alloc | apply pw_below_drewN | apply below_drew1 | refine below_set ?_ GE127.out | refine below_set ?_ GE132.out) | exact HB.out)⟩⟩
         rw [if_neg c22] at H
         exact absurd H (by simp)
        rw [if_neg c21] at H
        have c21b0 : decide (x11_2 < (yhost.size : Int)) = false := decide_eq_false c21
        clear c21
        have HC31 := Aside0.mk H
        clear H
        go_upto_if 71 with (fail)
        go_cut [9] (fun v9 wc => ∃ (kq : Nat) (x9_30 : ByteArray) (x128000_30 : ByteArray) (x128001_30 : ByteArray) (x128002_30 : Int) (x128003_30 : ByteArray) (x128004_30 : ByteArray) (x133002_30 : Int), v9 = .string x9_30 ∧ Aside0 (r13_Parse.j3 kq a0 t133 x9_30 t129 (⟨#[]⟩ : ByteArray) x133002_30 (⟨#[]⟩ : ByteArray) (⟨#[]⟩ : ByteArray) = some (r1, r2, r3, r4, r5, r6)) ∧ Aside0 (kq ≤ k2) ∧ Aside0 (wc.heap[gb127]? = some (.cells #[.string x128000_30, .string x128001_30, .int .i64 x128002_30, .string x128003_30, .string x128004_30] 45 (0, 0))) ∧ Aside0 (wc.heap[gb132]? = some (.cells #[.string t129, .string (⟨#[]⟩ : ByteArray), .int .i64 x133002_30, .string (⟨#[]⟩ : ByteArray), .string (⟨#[]⟩ : ByteArray)] 45 (0, 0))) ∧ Aside0 (Below w.heap.size w wc))
        case first =>
         have H := HC31.out
         clear HC31
         by_cases c32 : x10_2 ≥ 0
         ·rw [if_pos c32] at H
          have c32b0 : decide (0 ≤ x10_2) = true := decide_eq_true c32
          clear c32
          (first | rw [c32b0] | rw [c32b1] | (simp only [i64_w, i32_w]; rw [c32b0]) | skip)
          obtain ⟨ji33, hji33⟩ : ∃ j_ : Int, (wrap64 (x10_2 + 1)) = j_ := ⟨_, rfl⟩
          replace H : (if 0 ≤ (ji33) then (if (ji33) ≤ (yhost.size : Int) then ((r01_Number.f k2 (yhost.extract ((ji33) : Int).toNat yhost.size) 10).bind fun bt134 => (if (yhost.extract ((ji33) : Int).toNat yhost.size).toList = ([] : List UInt8) then (r13_Parse.j2 k2 a0 t133 yhost x10_2 (yhost.extract ((ji33) : Int).toNat yhost.size) bt134.1 false t129 (⟨#[]⟩ : ByteArray) t131 (⟨#[]⟩ : ByteArray) (⟨#[]⟩ : ByteArray)) else (if bt134.2 = true then (if ((yhost.extract ((ji33) : Int).toNat yhost.size).size : Int) > 5 then (r13_Parse.j2 k2 a0 t133 yhost x10_2 (yhost.extract ((ji33) : Int).toNat yhost.size) bt134.1 true t129 (⟨#[]⟩ : ByteArray) t131 (⟨#[]⟩ : ByteArray) (⟨#[]⟩ : ByteArray)) else (r13_Parse.j2 k2 a0 t133 yhost x10_2 (yhost.extract ((ji33) : Int).toNat yhost.size) bt134.1 (decide (bt134.1 > 65535)) t129 (⟨#[]⟩ : ByteArray) t131 (⟨#[]⟩ : ByteArray) (⟨#[]⟩ : ByteArray))) else (r13_Parse.j2 k2 a0 t133 yhost x10_2 (yhost.extract ((ji33) : Int).toNat yhost.size) bt134.1 true t129 (⟨#[]⟩ : ByteArray) t131 (⟨#[]⟩ : ByteArray) (⟨#[]⟩ : ByteArray))))) else (none)) else (none)) = some (r1, r2, r3, r4, r5, r6) := by first | (rw [hji33] at H; exact H) | (simp only [hji33] at H ⊢; exact H)
          have hji33w : (IntKind.i64.wrap (x10_2 + 1)) = ji33 := (i64_w _).trans hji33
          by_cases c34 : 0 ≤ (ji33)
          ·rw [if_pos c34] at H
           have c34b0 := eq_true c34
           have c34b1 : decide (0 ≤ (ji33)) = true := decide_eq_true c34
           clear c34
           by_cases c35 : (ji33) ≤ (yhost.size : Int)
           ·rw [if_pos c35] at H
            have c35b0 := eq_true c35
            have c35b1 : decide ((ji33) ≤ (yhost.size : Int)) = true := decide_eq_true c35
            clear c35
            replace H := Option.bind_eq_some_iff.mp H
            obtain ⟨⟨t134, t135⟩, A360, H⟩ := H
            try dsimp only at H
            have A36 := Aside0.mk A360
            clear A360
            have HC37 := Aside0.mk H
            clear H
            go_upto_region 21 with (first | ((with_reducible refine gate_callee (f := 133) rfl ?_); refine goesL_ (some 78) rfl rfl Tryd.func133 (by kernel_rfl) rfl #[.string (yhost.extract ((ji33) : Int).toNat yhost.size), .int .i64 10] rfl (by (try simp only [List.map_toArray, List.map_cons, List.map_nil]); first | done | (simp only [hji33]; rfl) | rfl | (simp only [List.length_drop, List.length_take]; rfl)) ?_; (with_reducible refine (r01_Number.calls k2 (yhost.extract ((ji33) : Int).toNat yhost.size) 10 t134 t135 _ A36.out).mono ?_); rintro e w' ⟨rfl, ⟨nd, rfl⟩⟩; refine ⟨_, rfl, ?_⟩))
            (try simp only [Act.put, List.setIfInBounds_toArray, List.set_cons_zero, List.set_cons_succ])
            go_cut [95] (fun v95 wc => ∃ (kq : Nat) (x95_36 : Bool), v95 = .bool x95_36 ∧ Aside0 (r13_Parse.j2 kq a0 t133 yhost x10_2 (yhost.extract ((ji33) : Int).toNat yhost.size) t134 x95_36 t129 (⟨#[]⟩ : ByteArray) t131 (⟨#[]⟩ : ByteArray) (⟨#[]⟩ : ByteArray) = some (r1, r2, r3, r4, r5, r6)) ∧ Aside0 (kq ≤ k2) ∧ Aside0 (wc.heap[gb127]? = some (.cells #[.string (⟨#[]⟩ : ByteArray), .string (⟨#[]⟩ : ByteArray), .int .i64 0, .string (⟨#[]⟩ : ByteArray), .string (⟨#[]⟩ : ByteArray)] 45 (0, 0))) ∧ Aside0 (wc.heap[gb132]? = some (.cells #[.string t129, .string (⟨#[]⟩ : ByteArray), .int .i64 t131, .string (⟨#[]⟩ : ByteArray), .string (⟨#[]⟩ : ByteArray)] 45 (0, 0))) ∧ Aside0 (Below w.heap.size w wc))
            case first =>
             have H := HC37.out
             clear HC37
             by_cases c38 : (yhost.extract ((ji33) : Int).toNat yhost.size).toList = ([] : List UInt8)
             ·rw [if_pos c38] at H
              have c38b0 : ((yhost.extract ((ji33) : Int).toNat yhost.size).toList == ([] : List UInt8)) = true := beq_iff_eq.mpr c38
              have c38b1 : ((yhost.extract ((ji33) : Int).toNat yhost.size).toList != ([] : List UInt8)) = false := bne_eq_false_iff_eq.mpr c38
              clear c38
              (first | rw [c38b0] | rw [c38b1] | (simp only [i64_w, i32_w]; rw [c38b0]) | skip)
              have H' := Aside0.mk H
              clear H
              go_wp2
              go_meet
              case rel => exact ⟨_, (false), (by first | rfl | (simp [bne, *]; done) | (simp; done)), H', ⟨by have := HJ6.out; have := HK2.out; first | omega | exact Nat.le_refl _⟩, ⟨by (with_reducible repeat (first | refine blk_drewN ?_ _ | refine blk_drew ?_ | refine blk_alloc ?_ _)); exact BK127.out⟩, ⟨by (with_reducible repeat (first | refine blk_drewN ?_ _ | refine blk_drew ?_ | refine blk_alloc ?_ _)); exact BK132.out⟩, ⟨by repeat (first | (with_reducible first | exact HB.out | apply below_alloc | apply pw_below_drewN | apply below_drew1 | refine below_set ?_ GE127.out | refine below_set ?_ GE132.out) | exact HB.out)⟩⟩
             rw [if_neg c38] at H
             have c38b0 : ((yhost.extract ((ji33) : Int).toNat yhost.size).toList == ([] : List UInt8)) = false := beq_eq_false_iff_ne.mpr c38
             have c38b1 : ((yhost.extract ((ji33) : Int).toNat yhost.size).toList != ([] : List UInt8)) = true := bne_iff_ne.mpr c38
             (first | rw [c38b0] | rw [c38b1] | (simp only [i64_w, i32_w]; rw [c38b0]) | skip)
             by_cases c39 : t135 = true
             ·subst c39
              have H1 : (if ((yhost.extract ((ji33) : Int).toNat yhost.size).size : Int) > 5 then (r13_Parse.j2 k2 a0 t133 yhost x10_2 (yhost.extract ((ji33) : Int).toNat yhost.size) t134 true t129 (⟨#[]⟩ : ByteArray) t131 (⟨#[]⟩ : ByteArray) (⟨#[]⟩ : ByteArray)) else (r13_Parse.j2 k2 a0 t133 yhost x10_2 (yhost.extract ((ji33) : Int).toNat yhost.size) t134 (decide (t134 > 65535)) t129 (⟨#[]⟩ : ByteArray) t131 (⟨#[]⟩ : ByteArray) (⟨#[]⟩ : ByteArray))) = some (r1, r2, r3, r4, r5, r6) := by rw [if_pos rfl] at H; exact H
              clear H
              have H := H1
              clear H1
              by_cases c40 : ((yhost.extract ((ji33) : Int).toNat yhost.size).size : Int) > 5
              ·rw [if_pos c40] at H
               have c40b0 : decide (5 < ((yhost.extract ((ji33) : Int).toNat yhost.size).size : Int)) = true := decide_eq_true c40
               have c40b9 : (5 < ((yhost.size - (ji33 : Int).toNat : Nat) : Int)) = True := eq_true (by have z_ := c40; rw [ByteArray.size_extract, Nat.min_self] at z_; exact z_)
               have c40b1 : decide (5 < (yhost.extract ((ji33) : Int).toNat yhost.size).size) = true := decide_eq_true (by omega)
               clear c40
               have H' := Aside0.mk H
               clear H
               go_wp2
               go_meet
               case rel => exact ⟨_, (true), (by first | rfl | (simp [bne, *]; done) | (simp; done)), H', ⟨by have := HJ6.out; have := HK2.out; first | omega | exact Nat.le_refl _⟩, ⟨by (with_reducible repeat (first | refine blk_drewN ?_ _ | refine blk_drew ?_ | refine blk_alloc ?_ _)); exact BK127.out⟩, ⟨by (with_reducible repeat (first | refine blk_drewN ?_ _ | refine blk_drew ?_ | refine blk_alloc ?_ _)); exact BK132.out⟩, ⟨by repeat (first | (with_reducible first | exact HB.out | apply below_alloc | apply pw_below_drewN | apply below_drew1 | refine below_set ?_ GE127.out | refine below_set ?_ GE132.out) | exact HB.out)⟩⟩
              rw [if_neg c40] at H
              have c40b0 : decide (5 < ((yhost.extract ((ji33) : Int).toNat yhost.size).size : Int)) = false := decide_eq_false c40
              have c40b9 : (5 < ((yhost.size - (ji33 : Int).toNat : Nat) : Int)) = False := eq_false (by have z_ := c40; rw [ByteArray.size_extract, Nat.min_self] at z_; exact z_)
              have c40b1 : decide (5 < (yhost.extract ((ji33) : Int).toNat yhost.size).size) = false := decide_eq_false (by omega)
              clear c40
              have H' := Aside0.mk H
              clear H
              go_wp2
              go_meet
              case rel => exact ⟨_, (decide (t134 > 65535)), (by first | rfl | (simp [bne, *]; done) | (simp; done)), H', ⟨by have := HJ6.out; have := HK2.out; first | omega | exact Nat.le_refl _⟩, ⟨by (with_reducible repeat (first | refine blk_drewN ?_ _ | refine blk_drew ?_ | refine blk_alloc ?_ _)); exact BK127.out⟩, ⟨by (with_reducible repeat (first | refine blk_drewN ?_ _ | refine blk_drew ?_ | refine blk_alloc ?_ _)); exact BK132.out⟩, ⟨by repeat (first | (with_reducible first | exact HB.out | apply below_alloc | apply pw_below_drewN | apply below_drew1 | refine below_set ?_ GE127.out | refine below_set ?_ GE132.out) | exact HB.out)⟩⟩
             replace c39 := Bool.eq_false_iff.mpr c39
             subst c39
             have H1 : (r13_Parse.j2 k2 a0 t133 yhost x10_2 (yhost.extract ((ji33) : Int).toNat yhost.size) t134 true t129 (⟨#[]⟩ : ByteArray) t131 (⟨#[]⟩ : ByteArray) (⟨#[]⟩ : ByteArray)) = some (r1, r2, r3, r4, r5, r6) := by rw [if_neg (show ¬ (false = true) by decide)] at H; exact H
             clear H
             have H := H1
             clear H1
             have H' := Aside0.mk H
             clear H
             go_wp2
             go_meet
             case rel => exact ⟨_, (true), (by first | rfl | (simp [bne, *]; done) | (simp; done)), H', ⟨by have := HJ6.out; have := HK2.out; first | omega | exact Nat.le_refl _⟩, ⟨by (with_reducible repeat (first | refine blk_drewN ?_ _ | refine blk_drew ?_ | refine blk_alloc ?_ _)); exact BK127.out⟩, ⟨by (with_reducible repeat (first | refine blk_drewN ?_ _ | refine blk_drew ?_ | refine blk_alloc ?_ _)); exact BK132.out⟩, ⟨by repeat (first | (with_reducible first | exact HB.out | apply below_alloc | apply pw_below_drewN | apply below_drew1 | refine below_set ?_ GE127.out | refine below_set ?_ GE132.out) | exact HB.out)⟩⟩
            case rest =>
             clear HC37
             try clear c1
             try clear c2
             try clear c2b0
             try clear c2b1
             try clear p2
             try clear q2
             try clear hx2
             try clear c3
             try clear c4
             try clear c5
             try clear p6
             try clear c8
             try clear c10
             try clear c11
             try clear c13
             try clear c15
             try clear c15b0
             try clear c15b1
             try clear c16
             try clear c16b0
             try clear c16b1
             try clear c17
             try clear c17b0
             try clear c17b1
             try clear c19
             try clear c21
             try clear c21b0
             try clear c22
             try clear c22b0
             try clear p23
             try clear q23
             try clear hx23
             try clear c24
             try clear c24b0
             try clear c24b1
             try clear p25
             try clear q25
             try clear hx25
             try clear c26
             try clear c26b0
             try clear c26b1
             try clear c27
             try clear c27b0
             try clear c27b1
             try clear p28
             try clear q28
             try clear hx28
             try clear c29
             try clear c29b0
             try clear c29b1
             try clear c30
             try clear c30b0
             try clear c30b1
             try clear c32
             try clear c32b0
             try clear c34
             try clear c34b0
             try clear c34b1
             try clear c35
             try clear c35b0
             try clear c35b1
             try clear c38
             try clear c38b0
             try clear c38b1
             try clear c39
             try clear c40
             try clear c40b0
             try clear c40b1
             try clear hcz12_0
             try clear hcz12_1
             try clear hcz12_2
             try clear hcz12_3
             try clear hcz12_4
             try clear hcz20_0
             try clear hcz20_1
             try clear hcz20_2
             try clear hcz20_3
             try clear hcz20_4
             try clear hcz4_0
             try clear hcz4_1
             try clear hcz4_2
             try clear hcz4_3
             try clear hcz4_4
             try clear hfz12_0
             try clear hfz12_1
             try clear hfz12_2
             try clear hfz12_3
             try clear hfz12_4
             try clear hfz20_0
             try clear hfz20_1
             try clear hfz20_2
             try clear hfz20_3
             try clear hfz20_4
             try clear hfz4_0
             try clear hfz4_1
             try clear hfz4_2
             try clear hfz4_3
             try clear hfz4_4
             try clear p2
             try clear p23
             try clear p25
             try clear p28
             try clear q23
             try clear q25
             try clear q28
             obtain ⟨kq, x95_36, rfl, HA, HJ36, BK127, BK132, HB⟩ := hcut
             cases kq with
             | zero => exact absurd HA.out (by simp [r13_Parse.j2])
             | succ kj36 =>
              have H := HA.out
              clear HA
              simp only [r13_Parse.j2] at H
              by_cases c41 : x95_36 = true
              ·subst c41
               have H1 : (some ((⟨#[]⟩ : ByteArray), (⟨#[]⟩ : ByteArray), 0, (⟨#[]⟩ : ByteArray), (⟨#[]⟩ : ByteArray), 2)) = some (r1, r2, r3, r4, r5, r6) := by rw [if_pos rfl] at H; exact H
               clear H
               have H := H1
               clear H1
               simp only [Option.some.injEq, Prod.mk.injEq] at H
               obtain ⟨rfl, rfl, rfl, rfl, rfl, rfl⟩ := H
               have hnb42 := NB127_132.out
               have hnc42 := NB132_127.out
               have hcz43_0 : wc.cell? ⟨gb127, 0, none⟩ = some (.string (⟨#[]⟩ : ByteArray)) := (blk_cell BK127.out 0).trans rfl
               have hcz43_1 : wc.cell? ⟨gb127, 1, none⟩ = some (.string (⟨#[]⟩ : ByteArray)) := (blk_cell BK127.out 1).trans rfl
               have hcz43_2 : wc.cell? ⟨gb127, 2, none⟩ = some (.int .i64 0) := (blk_cell BK127.out 2).trans rfl
               have hcz43_3 : wc.cell? ⟨gb127, 3, none⟩ = some (.string (⟨#[]⟩ : ByteArray)) := (blk_cell BK127.out 3).trans rfl
               have hcz43_4 : wc.cell? ⟨gb127, 4, none⟩ = some (.string (⟨#[]⟩ : ByteArray)) := (blk_cell BK127.out 4).trans rfl
               have hq4 := fun j => blk_frozen BK127.out j
               go_wp2
               refine bodyPost_ret (results_ct rfl _ _ gb127 45 #[.string (⟨#[]⟩ : ByteArray), .string (⟨#[]⟩ : ByteArray), .int .i64 0, .string (⟨#[]⟩ : ByteArray), .string (⟨#[]⟩ : ByteArray)] (0, 0) _ rfl (blk_sets BK127.out) Tryd.underlying45 rfl (by kernel_rfl)) rfl ?_
               exact ⟨by first | rfl | (simp [errW_none, errW_some] <;> rfl) | (simp only [← hji33]; first | rfl | (simp [errW_none, errW_some] <;> rfl)) | (simp [*, errW_none, errW_some] <;> rfl), by repeat (first | (with_reducible first | exact HB.out | apply below_alloc | apply pw_below_drewN | apply below_drew1 | refine below_set ?_ GE127.out | refine below_set ?_ GE132.out) | exact HB.out)⟩
              replace c41 := Bool.eq_false_iff.mpr c41
              subst c41
              have H1 : (if (yhost.extract ((ji33) : Int).toNat yhost.size).toList = ([] : List UInt8) then (if 0 ≤ x10_2 then (if x10_2 ≤ (yhost.size : Int) then (r13_Parse.j3 kj36 a0 t133 (yhost.extract 0 (x10_2 : Int).toNat) t129 (⟨#[]⟩ : ByteArray) t131 (⟨#[]⟩ : ByteArray) (⟨#[]⟩ : ByteArray)) else (none)) else (none)) else (if 0 ≤ x10_2 then (if x10_2 ≤ (yhost.size : Int) then (r13_Parse.j3 kj36 a0 t133 (yhost.extract 0 (x10_2 : Int).toNat) t129 (⟨#[]⟩ : ByteArray) t134 (⟨#[]⟩ : ByteArray) (⟨#[]⟩ : ByteArray)) else (none)) else (none))) = some (r1, r2, r3, r4, r5, r6) := by rw [if_neg (show ¬ (false = true) by decide)] at H; exact H
              clear H
              have H := H1
              clear H1
              by_cases c44 : (yhost.extract ((ji33) : Int).toNat yhost.size).toList = ([] : List UInt8)
              ·rw [if_pos c44] at H
               have c44b0 : ((yhost.extract ((ji33) : Int).toNat yhost.size).toList == ([] : List UInt8)) = true := beq_iff_eq.mpr c44
               have c44b1 : ((yhost.extract ((ji33) : Int).toNat yhost.size).toList != ([] : List UInt8)) = false := bne_eq_false_iff_eq.mpr c44
               clear c44
               by_cases c45 : 0 ≤ x10_2
               ·rw [if_pos c45] at H
                have c45b0 := eq_true c45
                have c45b1 : decide (0 ≤ x10_2) = true := decide_eq_true c45
                clear c45
                by_cases c46 : x10_2 ≤ (yhost.size : Int)
                ·rw [if_pos c46] at H
                 have c46b0 := eq_true c46
                 have c46b1 : decide (x10_2 ≤ (yhost.size : Int)) = true := decide_eq_true c46
                 clear c46
                 have H' := Aside0.mk H
                 clear H
                 go_wp2
                 go_meet
                 case rel => exact ⟨_, (yhost.extract 0 (x10_2 : Int).toNat), ((⟨#[]⟩ : ByteArray)), ((⟨#[]⟩ : ByteArray)), (0), ((⟨#[]⟩ : ByteArray)), ((⟨#[]⟩ : ByteArray)), (t131), (by first | rfl | (simp [bne, *]; done) | (simp; done)), H', ⟨by have := HJ6.out; have := HK2.out; have := HJ36.out; first | omega | exact Nat.le_refl _⟩, ⟨by (with_reducible repeat (first | refine blk_drewN ?_ _ | refine blk_drew ?_ | refine blk_alloc ?_ _)); exact BK127.out⟩, ⟨by (with_reducible repeat (first | refine blk_drewN ?_ _ | refine blk_drew ?_ | refine blk_alloc ?_ _)); exact BK132.out⟩, ⟨by repeat (first | (with_reducible first | exact HB.out | apply below_alloc | apply pw_below_drewN | apply below_drew1 | refine below_set ?_ GE127.out | refine below_set ?_ GE132.out) | exact HB.out)⟩⟩
                rw [if_neg c46] at H
                exact absurd H (by simp)
               rw [if_neg c45] at H
               exact absurd H (by simp)
              rw [if_neg c44] at H
              have c44b0 : ((yhost.extract ((ji33) : Int).toNat yhost.size).toList == ([] : List UInt8)) = false := beq_eq_false_iff_ne.mpr c44
              have c44b1 : ((yhost.extract ((ji33) : Int).toNat yhost.size).toList != ([] : List UInt8)) = true := bne_iff_ne.mpr c44
              by_cases c47 : 0 ≤ x10_2
              ·rw [if_pos c47] at H
               have c47b0 := eq_true c47
               have c47b1 : decide (0 ≤ x10_2) = true := decide_eq_true c47
               clear c47
               by_cases c48 : x10_2 ≤ (yhost.size : Int)
               ·rw [if_pos c48] at H
                have c48b0 := eq_true c48
                have c48b1 : decide (x10_2 ≤ (yhost.size : Int)) = true := decide_eq_true c48
                clear c48
                have H' := Aside0.mk H
                clear H
                have hnb49 := NB132_127.out
                have hnc49 := NB127_132.out
                have hcz50_0 : wc.cell? ⟨gb132, 0, none⟩ = some (.string t129) := (blk_cell BK132.out 0).trans rfl
                have hcz50_1 : wc.cell? ⟨gb132, 1, none⟩ = some (.string (⟨#[]⟩ : ByteArray)) := (blk_cell BK132.out 1).trans rfl
                have hcz50_2 : wc.cell? ⟨gb132, 2, none⟩ = some (.int .i64 t131) := (blk_cell BK132.out 2).trans rfl
                have hcz50_3 : wc.cell? ⟨gb132, 3, none⟩ = some (.string (⟨#[]⟩ : ByteArray)) := (blk_cell BK132.out 3).trans rfl
                have hcz50_4 : wc.cell? ⟨gb132, 4, none⟩ = some (.string (⟨#[]⟩ : ByteArray)) := (blk_cell BK132.out 4).trans rfl
                have hq5 := fun j => blk_frozen BK132.out j
                go_wp2
                go_meet
                case rel => exact ⟨_, (yhost.extract 0 (x10_2 : Int).toNat), ((⟨#[]⟩ : ByteArray)), ((⟨#[]⟩ : ByteArray)), (0), ((⟨#[]⟩ : ByteArray)), ((⟨#[]⟩ : ByteArray)), (t134), (by first | rfl | (simp [bne, *]; done) | (simp; done)), H', ⟨by have := HJ6.out; have := HK2.out; have := HJ36.out; first | omega | exact Nat.le_refl _⟩, ⟨by (with_reducible repeat (first | refine blk_drewN ?_ _ | refine blk_drew ?_ | refine blk_alloc ?_ _)); refine blk_far ?_ NB127_132.out _; (with_reducible repeat (first | refine blk_drewN ?_ _ | refine blk_drew ?_ | refine blk_alloc ?_ _)); exact BK127.out⟩, ⟨by (with_reducible repeat (first | refine blk_drewN ?_ _ | refine blk_drew ?_ | refine blk_alloc ?_ _)); refine blk_put (cs := #[.string t129, .string (⟨#[]⟩ : ByteArray), .int .i64 t131, .string (⟨#[]⟩ : ByteArray), .string (⟨#[]⟩ : ByteArray)]) ?_ 2 _ rfl; (with_reducible repeat (first | refine blk_drewN ?_ _ | refine blk_drew ?_ | refine blk_alloc ?_ _)); exact BK132.out⟩, ⟨by repeat (first | (with_reducible first | exact HB.out | apply below_alloc | apply pw_below_drewN | apply below_drew1 | refine below_set ?_ GE127.out | refine below_set ?_ GE132.out) | exact HB.out)⟩⟩
               rw [if_neg c48] at H
               exact absurd H (by simp)
              rw [if_neg c47] at H
              exact absurd H (by simp)
           rw [if_neg c35] at H
           exact absurd H (by simp)
          rw [if_neg c34] at H
          exact absurd H (by simp)
         rw [if_neg c32] at H
         have c32b0 : decide (0 ≤ x10_2) = false := decide_eq_false c32
         clear c32
         (first | rw [c32b0] | rw [c32b1] | (simp only [i64_w, i32_w]; rw [c32b0]) | skip)
         have H' := Aside0.mk H
         clear H
         go_wp2
         go_meet
         case rel => exact ⟨_, (yhost), ((⟨#[]⟩ : ByteArray)), ((⟨#[]⟩ : ByteArray)), (0), ((⟨#[]⟩ : ByteArray)), ((⟨#[]⟩ : ByteArray)), (t131), (by first | rfl | (simp [bne, *]; done) | (simp; done)), H', ⟨by have := HJ6.out; have := HK2.out; first | omega | exact Nat.le_refl _⟩, ⟨by (with_reducible repeat (first | refine blk_drewN ?_ _ | refine blk_drew ?_ | refine blk_alloc ?_ _)); exact BK127.out⟩, ⟨by (with_reducible repeat (first | refine blk_drewN ?_ _ | refine blk_drew ?_ | refine blk_alloc ?_ _)); exact BK132.out⟩, ⟨by repeat (first | (with_reducible first | exact HB.out | apply below_alloc | apply pw_below_drewN | apply below_drew1 | refine below_set ?_ GE127.out | refine below_set ?_ GE132.out) | exact HB.out)⟩⟩
        case rest =>
         clear HC31
         try clear c1
         try clear c2
         try clear c2b0
         try clear c2b1
         try clear p2
         try clear q2
         try clear hx2
         try clear c3
         try clear c4
         try clear c5
         try clear p6
         try clear c8
         try clear c10
         try clear c11
         try clear c13
         try clear c15
         try clear c15b0
         try clear c15b1
         try clear c16
         try clear c16b0
         try clear c16b1
         try clear c17
         try clear c17b0
         try clear c17b1
         try clear c19
         try clear c21
         try clear c21b0
         try clear c22
         try clear c22b0
         try clear p23
         try clear q23
         try clear hx23
         try clear c24
         try clear c24b0
         try clear c24b1
         try clear p25
         try clear q25
         try clear hx25
         try clear c26
         try clear c26b0
         try clear c26b1
         try clear c27
         try clear c27b0
         try clear c27b1
         try clear p28
         try clear q28
         try clear hx28
         try clear c29
         try clear c29b0
         try clear c29b1
         try clear c30
         try clear c30b0
         try clear c30b1
         try clear c32
         try clear c32b0
         try clear c34
         try clear c34b0
         try clear c34b1
         try clear c35
         try clear c35b0
         try clear c35b1
         try clear c38
         try clear c38b0
         try clear c38b1
         try clear c39
         try clear c40
         try clear c40b0
         try clear c40b1
         try clear c41
         try clear c42
         try clear c44
         try clear c44b0
         try clear c44b1
         try clear c45
         try clear c45b0
         try clear c45b1
         try clear c46
         try clear c46b0
         try clear c46b1
         try clear c47
         try clear c47b0
         try clear c47b1
         try clear c48
         try clear c48b0
         try clear c48b1
         try clear c49
         try clear hcz12_0
         try clear hcz12_1
         try clear hcz12_2
         try clear hcz12_3
         try clear hcz12_4
         try clear hcz20_0
         try clear hcz20_1
         try clear hcz20_2
         try clear hcz20_3
         try clear hcz20_4
         try clear hcz43_0
         try clear hcz43_1
         try clear hcz43_2
         try clear hcz43_3
         try clear hcz43_4
         try clear hcz4_0
         try clear hcz4_1
         try clear hcz4_2
         try clear hcz4_3
         try clear hcz4_4
         try clear hcz50_0
         try clear hcz50_1
         try clear hcz50_2
         try clear hcz50_3
         try clear hcz50_4
         try clear hfz12_0
         try clear hfz12_1
         try clear hfz12_2
         try clear hfz12_3
         try clear hfz12_4
         try clear hfz20_0
         try clear hfz20_1
         try clear hfz20_2
         try clear hfz20_3
         try clear hfz20_4
         try clear hfz43_0
         try clear hfz43_1
         try clear hfz43_2
         try clear hfz43_3
         try clear hfz43_4
         try clear hfz4_0
         try clear hfz4_1
         try clear hfz4_2
         try clear hfz4_3
         try clear hfz4_4
         try clear hfz50_0
         try clear hfz50_1
         try clear hfz50_2
         try clear hfz50_3
         try clear hfz50_4
         try clear p2
         try clear p23
         try clear p25
         try clear p28
         try clear p6
         try clear q2
         try clear q23
         try clear q25
         try clear q28
         obtain ⟨kq, x9_30, x128000_30, x128001_30, x128002_30, x128003_30, x128004_30, x133002_30, rfl, HA, HJ30, BK127, BK132, HB⟩ := hcut
         cases kq with
         | zero => exact absurd HA.out (by simp [r13_Parse.j3])
         | succ kj30 =>
          have H := HA.out
          clear HA
          simp only [r13_Parse.j3] at H
          replace H := Option.bind_eq_some_iff.mp H
          obtain ⟨⟨t136, t137⟩, A510, H⟩ := H
          try dsimp only at H
          have A51 := Aside0.mk A510
          clear A510
          by_cases c52 : t137 = true
          ·subst c52
           have H1 : ((r13_first.f kj30 a0 t133 (⟨#[35]⟩ : ByteArray)).bind fun t138 => ((r13_first.f kj30 a0 t133 (⟨#[63]⟩ : ByteArray)).bind fun t139 => (if 0 ≤ t133 then (if t133 ≤ (mn t139 t138) then (if (mn t139 t138) ≤ (a0.size : Int) then (if 0 ≤ (mn t139 t138) then (if (mn t139 t138) ≤ t138 then (if t138 ≤ (a0.size : Int) then (if (a0.extract (t133 : Int).toNat ((mn t139 t138) : Int).toNat).toList = ([] : List UInt8) then (some (t129, t136, x133002_30, (⟨#[47]⟩ : ByteArray), a0.extract ((mn t139 t138) : Int).toNat (t138 : Int).toNat, 0)) else (some (t129, t136, x133002_30, a0.extract (t133 : Int).toNat ((mn t139 t138) : Int).toNat, a0.extract ((mn t139 t138) : Int).toNat (t138 : Int).toNat, 0))) else (none)) else (none)) else (none)) else (none)) else (none)) else (none)))) = some (r1, r2, r3, r4, r5, r6) := by rw [if_pos rfl] at H; exact H
           clear H
           have H := H1
           clear H1
           replace H := Option.bind_eq_some_iff.mp H
           obtain ⟨t138, A530, H⟩ := H
           try dsimp only at H
           have A53 := Aside0.mk A530
           clear A530
           replace H := Option.bind_eq_some_iff.mp H
           obtain ⟨t139, A540, H⟩ := H
           try dsimp only at H
           have A54 := Aside0.mk A540
           clear A540
           obtain ⟨ji55, hji55⟩ : ∃ j_ : Int, (mn t139 t138) = j_ := ⟨_, rfl⟩
           replace H : (if 0 ≤ t133 then (if t133 ≤ (ji55) then (if (ji55) ≤ (a0.size : Int) then (if 0 ≤ (ji55) then (if (ji55) ≤ t138 then (if t138 ≤ (a0.size : Int) then (if (a0.extract (t133 : Int).toNat ((ji55) : Int).toNat).toList = ([] : List UInt8) then (some (t129, t136, x133002_30, (⟨#[47]⟩ : ByteArray), a0.extract ((ji55) : Int).toNat (t138 : Int).toNat, 0)) else (some (t129, t136, x133002_30, a0.extract (t133 : Int).toNat ((ji55) : Int).toNat, a0.extract ((ji55) : Int).toNat (t138 : Int).toNat, 0))) else (none)) else (none)) else (none)) else (none)) else (none)) else (none)) = some (r1, r2, r3, r4, r5, r6) := by first | (rw [hji55] at H; exact H) | (simp only [hji55] at H ⊢; exact H)
           (try rw [hji55] at A51)
           (try rw [hji55] at A53)
           (try rw [hji55] at A54)
           have hji55_ : (if t138 < t139 then t138 else t139) = ji55 := hji55
           by_cases c56 : 0 ≤ t133
           ·rw [if_pos c56] at H
            have c56b0 := eq_true c56
            have c56b1 : decide (0 ≤ t133) = true := decide_eq_true c56
            clear c56
            by_cases c57 : t133 ≤ (ji55)
            ·rw [if_pos c57] at H
             have c57b0 := eq_true c57
             have c57b1 : decide (t133 ≤ (ji55)) = true := decide_eq_true c57
             clear c57
             by_cases c58 : (ji55) ≤ (a0.size : Int)
             ·rw [if_pos c58] at H
              have c58b0 := eq_true c58
              have c58b1 : decide ((ji55) ≤ (a0.size : Int)) = true := decide_eq_true c58
              clear c58
              by_cases c59 : 0 ≤ (ji55)
              ·rw [if_pos c59] at H
               have c59b0 := eq_true c59
               have c59b1 : decide (0 ≤ (ji55)) = true := decide_eq_true c59
               clear c59
               by_cases c60 : (ji55) ≤ t138
               ·rw [if_pos c60] at H
                have c60b0 := eq_true c60
                have c60b1 : decide ((ji55) ≤ t138) = true := decide_eq_true c60
                clear c60
                by_cases c61 : t138 ≤ (a0.size : Int)
                ·rw [if_pos c61] at H
                 have c61b0 := eq_true c61
                 have c61b1 : decide (t138 ≤ (a0.size : Int)) = true := decide_eq_true c61
                 clear c61
                 by_cases c62 : (a0.extract (t133 : Int).toNat ((ji55) : Int).toNat).toList = ([] : List UInt8)
                 ·rw [if_pos c62] at H
                  have c62b0 : ((a0.extract (t133 : Int).toNat ((ji55) : Int).toNat).toList == ([] : List UInt8)) = true := beq_iff_eq.mpr c62
                  have c62b1 : ((a0.extract (t133 : Int).toNat ((ji55) : Int).toNat).toList != ([] : List UInt8)) = false := bne_eq_false_iff_eq.mpr c62
                  clear c62
                  simp only [Option.some.injEq, Prod.mk.injEq] at H
                  obtain ⟨rfl, rfl, rfl, rfl, rfl, rfl⟩ := H
                  go_wp2_with (first | ((with_reducible refine gate_callee (f := 134) rfl ?_); refine goesL_ (some 106) rfl rfl Tryd.func134 (by kernel_rfl) rfl #[.string x9_30] rfl (by (try simp only [List.map_toArray, List.map_cons, List.map_nil]); first | done | rfl) ?_; (with_reducible refine (r13_Host.calls kj30 x9_30 t136 true _ A51.out).mono ?_); rintro e w63 ⟨rfl, hb⟩; refine ⟨_, rfl, ?_⟩; replace BK127 := Aside0.mk (blk_below (blk_later BK127.out) hb); replace BK132 := Aside0.mk (blk_below (blk_later BK132.out) hb); replace HB := Aside0.mk (below_step (bel_later HB.out) hb); (try clear hb); (try clear hb2); (try clear hk); (try clear hi); have hnb64 := NB132_127.out; have hnc64 := NB127_132.out; have hcz65_0 : w63.cell? ⟨gb132, 0, none⟩ = some (.string t129) := (blk_cell BK132.out 0).trans rfl; have hcz65_1 : w63.cell? ⟨gb132, 1, none⟩ = some (.string (⟨#[]⟩ : ByteArray)) := (blk_cell BK132.out 1).trans rfl; have hcz65_2 : w63.cell? ⟨gb132, 2, none⟩ = some (.int .i64 x133002_30) := (blk_cell BK132.out 2).trans rfl; have hcz65_3 : w63.cell? ⟨gb132, 3, none⟩ = some (.string (⟨#[]⟩ : ByteArray)) := (blk_cell BK132.out 3).trans rfl; have hcz65_4 : w63.cell? ⟨gb132, 4, none⟩ = some (.string (⟨#[]⟩ : ByteArray)) := (blk_cell BK132.out 4).trans rfl; have hq6 := fun j => blk_frozen BK132.out j; have hu65 := cell_twice hcz65_3) | ((with_reducible refine gate_callee (f := 132) rfl ?_); refine goesL_ (some 116) rfl rfl Tryd.func132 (by kernel_rfl) rfl #[.string a0, .int .i64 t133, .string (⟨#[35]⟩ : ByteArray)] rfl (by (try simp only [List.map_toArray, List.map_cons, List.map_nil]); first | done | rfl) ?_; (with_reducible refine (r13_first.calls kj30 a0 t133 (⟨#[35]⟩ : ByteArray) t138 _ A53.out).mono ?_); rintro e w' ⟨rfl, ⟨nd, rfl⟩⟩; refine ⟨_, rfl, ?_⟩) | ((with_reducible refine gate_callee (f := 132) rfl ?_); refine goesL_ (some 119) rfl rfl Tryd.func132 (by kernel_rfl) rfl #[.string a0, .int .i64 t133, .string (⟨#[63]⟩ : ByteArray)] rfl (by (try simp only [List.map_toArray, List.map_cons, List.map_nil]); first | done | rfl) ?_; (with_reducible refine (r13_first.calls kj30 a0 t133 (⟨#[63]⟩ : ByteArray) t139 _ A54.out).mono ?_); rintro e w' ⟨rfl, ⟨nd, rfl⟩⟩; refine ⟨_, rfl, ?_⟩; have hcz66_0 : w63.cell? ⟨gb127, 0, none⟩ = some (.string x128000_30) := (blk_cell BK127.out 0).trans rfl; have hcz66_1 : w63.cell? ⟨gb127, 1, none⟩ = some (.string x128001_30) := (blk_cell BK127.out 1).trans rfl; have hcz66_2 : w63.cell? ⟨gb127, 2, none⟩ = some (.int .i64 x128002_30) := (blk_cell BK127.out 2).trans rfl; have hcz66_3 : w63.cell? ⟨gb127, 3, none⟩ = some (.string x128003_30) := (blk_cell BK127.out 3).trans rfl; have hcz66_4 : w63.cell? ⟨gb127, 4, none⟩ = some (.string x128004_30) := (blk_cell BK127.out 4).trans rfl; have hq7 := fun j => blk_frozen BK127.out j; have hu66 := cell_twice hcz66_3))
                  refine bodyPost_ret (results_ct rfl _ _ gb127 45 #[.string t129, .string t136, .int .i64 x133002_30, .string (⟨#[47]⟩ : ByteArray), .string (a0.extract ((ji55) : Int).toNat (t138 : Int).toNat)] (0, 0) _ rfl (by (with_reducible repeat (first | refine blk_drewN ?_ _ | refine blk_drew ?_ | refine blk_alloc ?_ _)); refine blk_put (cs := #[.string t129, .string t136, .int .i64 x133002_30, .string (⟨#[47]⟩ : ByteArray), .string x128004_30]) ?_ 4 _ rfl; refine blk_put (cs := #[.string t129, .string t136, .int .i64 x133002_30, .string x128003_30, .string x128004_30]) ?_ 3 _ rfl; refine blk_put (cs := #[.string t129, .string t136, .int .i64 x128002_30, .string x128003_30, .string x128004_30]) ?_ 2 _ rfl; refine blk_put (cs := #[.string t129, .string x128001_30, .int .i64 x128002_30, .string x128003_30, .string x128004_30]) ?_ 1 _ rfl; refine blk_put (cs := #[.string x128000_30, .string x128001_30, .int .i64 x128002_30, .string x128003_30, .string x128004_30]) ?_ 0 _ rfl; refine blk_far ?_ NB127_132.out _; refine blk_far ?_ NB127_132.out _; refine blk_far ?_ NB127_132.out _; refine blk_far ?_ NB127_132.out _; (with_reducible repeat (first | refine blk_drewN ?_ _ | refine blk_drew ?_ | refine blk_alloc ?_ _)); exact BK127.out) Tryd.underlying45 rfl (by kernel_rfl)) rfl ?_
                  exact ⟨by first | rfl | (simp [errW_none, errW_some] <;> rfl) | (simp only [← hji55]; first | rfl | (simp [errW_none, errW_some] <;> rfl)) | (simp [*, errW_none, errW_some] <;> rfl), by repeat (first | (with_reducible first | exact HB.out | apply below_alloc | apply pw_below_drewN | apply below_drew1 | refine below_set ?_ GE127.out | refine below_set ?_ GE132.out) | exact HB.out)⟩
                 rw [if_neg c62] at H
                 have c62b0 : ((a0.extract (t133 : Int).toNat ((ji55) : Int).toNat).toList == ([] : List UInt8)) = false := beq_eq_false_iff_ne.mpr c62
                 have c62b1 : ((a0.extract (t133 : Int).toNat ((ji55) : Int).toNat).toList != ([] : List UInt8)) = true := bne_iff_ne.mpr c62
                 simp only [Option.some.injEq, Prod.mk.injEq] at H
                 obtain ⟨rfl, rfl, rfl, rfl, rfl, rfl⟩ := H
                 go_wp2_with (first | ((with_reducible refine gate_callee (f := 134) rfl ?_); refine goesL_ (some 106) rfl rfl Tryd.func134 (by kernel_rfl) rfl #[.string x9_30] rfl (by (try simp only [List.map_toArray, List.map_cons, List.map_nil]); first | done | rfl) ?_; (with_reducible refine (r13_Host.calls kj30 x9_30 t136 true _ A51.out).mono ?_); rintro e w67 ⟨rfl, hb⟩; refine ⟨_, rfl, ?_⟩; replace BK127 := Aside0.mk (blk_below (blk_later BK127.out) hb); replace BK132 := Aside0.mk (blk_below (blk_later BK132.out) hb); replace HB := Aside0.mk (below_step (bel_later HB.out) hb); (try clear hb); (try clear hb2); (try clear hk); (try clear hi); have hnb68 := NB132_127.out; have hnc68 := NB127_132.out; have hcz69_0 : w67.cell? ⟨gb132, 0, none⟩ = some (.string t129) := (blk_cell BK132.out 0).trans rfl; have hcz69_1 : w67.cell? ⟨gb132, 1, none⟩ = some (.string (⟨#[]⟩ : ByteArray)) := (blk_cell BK132.out 1).trans rfl; have hcz69_2 : w67.cell? ⟨gb132, 2, none⟩ = some (.int .i64 x133002_30) := (blk_cell BK132.out 2).trans rfl; have hcz69_3 : w67.cell? ⟨gb132, 3, none⟩ = some (.string (⟨#[]⟩ : ByteArray)) := (blk_cell BK132.out 3).trans rfl; have hcz69_4 : w67.cell? ⟨gb132, 4, none⟩ = some (.string (⟨#[]⟩ : ByteArray)) := (blk_cell BK132.out 4).trans rfl; have hq8 := fun j => blk_frozen BK132.out j; have hu69 := cell_twice hcz69_3) | ((with_reducible refine gate_callee (f := 132) rfl ?_); refine goesL_ (some 116) rfl rfl Tryd.func132 (by kernel_rfl) rfl #[.string a0, .int .i64 t133, .string (⟨#[35]⟩ : ByteArray)] rfl (by (try simp only [List.map_toArray, List.map_cons, List.map_nil]); first | done | rfl) ?_; (with_reducible refine (r13_first.calls kj30 a0 t133 (⟨#[35]⟩ : ByteArray) t138 _ A53.out).mono ?_); rintro e w' ⟨rfl, ⟨nd, rfl⟩⟩; refine ⟨_, rfl, ?_⟩) | ((with_reducible refine gate_callee (f := 132) rfl ?_); refine goesL_ (some 119) rfl rfl Tryd.func132 (by kernel_rfl) rfl #[.string a0, .int .i64 t133, .string (⟨#[63]⟩ : ByteArray)] rfl (by (try simp only [List.map_toArray, List.map_cons, List.map_nil]); first | done | rfl) ?_; (with_reducible refine (r13_first.calls kj30 a0 t133 (⟨#[63]⟩ : ByteArray) t139 _ A54.out).mono ?_); rintro e w' ⟨rfl, ⟨nd, rfl⟩⟩; refine ⟨_, rfl, ?_⟩; have hcz70_0 : w67.cell? ⟨gb127, 0, none⟩ = some (.string x128000_30) := (blk_cell BK127.out 0).trans rfl; have hcz70_1 : w67.cell? ⟨gb127, 1, none⟩ = some (.string x128001_30) := (blk_cell BK127.out 1).trans rfl; have hcz70_2 : w67.cell? ⟨gb127, 2, none⟩ = some (.int .i64 x128002_30) := (blk_cell BK127.out 2).trans rfl; have hcz70_3 : w67.cell? ⟨gb127, 3, none⟩ = some (.string x128003_30) := (blk_cell BK127.out 3).trans rfl; have hcz70_4 : w67.cell? ⟨gb127, 4, none⟩ = some (.string x128004_30) := (blk_cell BK127.out 4).trans rfl; have hq9 := fun j => blk_frozen BK127.out j; have hu70 := cell_twice hcz70_3))
                 refine bodyPost_ret (results_ct rfl _ _ gb127 45 #[.string t129, .string t136, .int .i64 x133002_30, .string (a0.extract (t133 : Int).toNat ((ji55) : Int).toNat), .string (a0.extract ((ji55) : Int).toNat (t138 : Int).toNat)] (0, 0) _ rfl (by (with_reducible repeat (first | refine blk_drewN ?_ _ | refine blk_drew ?_ | refine blk_alloc ?_ _)); refine blk_put (cs := #[.string t129, .string t136, .int .i64 x133002_30, .string (a0.extract (t133 : Int).toNat ((ji55) : Int).toNat), .string x128004_30]) ?_ 4 _ rfl; refine blk_put (cs := #[.string t129, .string t136, .int .i64 x133002_30, .string x128003_30, .string x128004_30]) ?_ 3 _ rfl; refine blk_put (cs := #[.string t129, .string t136, .int .i64 x128002_30, .string x128003_30, .string x128004_30]) ?_ 2 _ rfl; refine blk_put (cs := #[.string t129, .string x128001_30, .int .i64 x128002_30, .string x128003_30, .string x128004_30]) ?_ 1 _ rfl; refine blk_put (cs := #[.string x128000_30, .string x128001_30, .int .i64 x128002_30, .string x128003_30, .string x128004_30]) ?_ 0 _ rfl; refine blk_far ?_ NB127_132.out _; refine blk_far ?_ NB127_132.out _; refine blk_far ?_ NB127_132.out _; (with_reducible repeat (first | refine blk_drewN ?_ _ | refine blk_drew ?_ | refine blk_alloc ?_ _)); exact BK127.out) Tryd.underlying45 rfl (by kernel_rfl)) rfl ?_
                 exact ⟨by first | rfl | (simp [errW_none, errW_some] <;> rfl) | (simp only [← hji55]; first | rfl | (simp [errW_none, errW_some] <;> rfl)) | (simp [*, errW_none, errW_some] <;> rfl), by repeat (first | (with_reducible first | exact HB.out | apply below_alloc | apply pw_below_drewN | apply below_drew1 | refine below_set ?_ GE127.out | refine below_set ?_ GE132.out) | exact HB.out)⟩
                rw [if_neg c61] at H
                exact absurd H (by simp)
               rw [if_neg c60] at H
               exact absurd H (by simp)
              rw [if_neg c59] at H
              exact absurd H (by simp)
             rw [if_neg c58] at H
             exact absurd H (by simp)
            rw [if_neg c57] at H
            exact absurd H (by simp)
           rw [if_neg c56] at H
           exact absurd H (by simp)
          replace c52 := Bool.eq_false_iff.mpr c52
          subst c52
          have H1 : (some ((⟨#[]⟩ : ByteArray), (⟨#[]⟩ : ByteArray), 0, (⟨#[]⟩ : ByteArray), (⟨#[]⟩ : ByteArray), 2)) = some (r1, r2, r3, r4, r5, r6) := by rw [if_neg (show ¬ (false = true) by decide)] at H; exact H
          clear H
          have H := H1
          clear H1
          simp only [Option.some.injEq, Prod.mk.injEq] at H
          obtain ⟨rfl, rfl, rfl, rfl, rfl, rfl⟩ := H
          go_wp2_with (first | ((with_reducible refine gate_callee (f := 134) rfl ?_); refine goesL_ (some 106) rfl rfl Tryd.func134 (by kernel_rfl) rfl #[.string x9_30] rfl (by (try simp only [List.map_toArray, List.map_cons, List.map_nil]); first | done | rfl) ?_; (with_reducible refine (r13_Host.calls kj30 x9_30 t136 false _ A51.out).mono ?_); rintro e w71 ⟨rfl, hb⟩; refine ⟨_, rfl, ?_⟩; replace BK127 := Aside0.mk (blk_below (blk_later BK127.out) hb); replace BK132 := Aside0.mk (blk_below (blk_later BK132.out) hb); replace HB := Aside0.mk (below_step (bel_later HB.out) hb); (try clear hb); (try clear hb2); (try clear hk); (try clear hi); have hnb72 := NB127_132.out; have hnc72 := NB132_127.out; have hcz73_0 : w71.cell? ⟨gb127, 0, none⟩ = some (.string x128000_30) := (blk_cell BK127.out 0).trans rfl; have hcz73_1 : w71.cell? ⟨gb127, 1, none⟩ = some (.string x128001_30) := (blk_cell BK127.out 1).trans rfl; have hcz73_2 : w71.cell? ⟨gb127, 2, none⟩ = some (.int .i64 x128002_30) := (blk_cell BK127.out 2).trans rfl; have hcz73_3 : w71.cell? ⟨gb127, 3, none⟩ = some (.string x128003_30) := (blk_cell BK127.out 3).trans rfl; have hcz73_4 : w71.cell? ⟨gb127, 4, none⟩ = some (.string x128004_30) := (blk_cell BK127.out 4).trans rfl; have hq10 := fun j => blk_frozen BK127.out j; have hu73 := cell_twice hcz73_3))
          refine bodyPost_ret (results_ct rfl _ _ gb127 45 #[.string (⟨#[]⟩ : ByteArray), .string (⟨#[]⟩ : ByteArray), .int .i64 0, .string (⟨#[]⟩ : ByteArray), .string (⟨#[]⟩ : ByteArray)] (0, 0) _ rfl (blk_sets BK127.out) Tryd.underlying45 rfl (by kernel_rfl)) rfl ?_
          exact ⟨by first | rfl | (simp [errW_none, errW_some] <;> rfl) | (simp [*, errW_none, errW_some] <;> rfl), by repeat (first | (with_reducible first | exact HB.out | apply below_alloc | apply pw_below_drewN | apply below_drew1 | refine below_set ?_ GE127.out | refine below_set ?_ GE132.out) | exact HB.out)⟩
     rw [if_neg c17] at H
     exact absurd H (by simp)
    rw [if_neg c16] at H
    exact absurd H (by simp)
   rw [if_neg c15] at H
   exact absurd H (by simp)


/-! ### r13_Good: function 82 -/
mutual
def r13_Good.l0 : Nat → ByteArray → ByteArray → Int → Option (ByteArray × ByteArray × Int × ByteArray × ByteArray)
 | 0, _, _, _ => none
 | k + 1, x0, x5, x6 => if x6 < (x0.size : Int) then (r13_Good.j1 k x0 x5 x6 (decide (x6 < 9))) else (r13_Good.j1 k x0 x5 x6 false)
def r13_Good.j1 : Nat → ByteArray → ByteArray → Int → Bool → Option (ByteArray × ByteArray × Int × ByteArray × ByteArray)
 | 0, _, _, _, _ => none
 | k + 1, x0, x5, x6, x22 => if x22 = true then (if 0 ≤ x6 then (if x6 < (x0.size : Int) then (if (bt x0 x6) ≥ 97 then (if (bt x0 x6) ≤ 122 then (if x6 ≤ (wrap64 (x6 + 1)) then (if (wrap64 (x6 + 1)) ≤ (x0.size : Int) then (if x5.size + (x0.extract (x6 : Int).toNat ((wrap64 (x6 + 1)) : Int).toNat).size ≤ 9223372036854775807 then (r13_Good.l0 k x0 (x5 ++ (x0.extract (x6 : Int).toNat ((wrap64 (x6 + 1)) : Int).toNat)) (wrap64 (x6 + 1))) else (none)) else (none)) else (none)) else (r13_Good.l0 k x0 x5 (wrap64 (x6 + 1)))) else (r13_Good.l0 k x0 x5 (wrap64 (x6 + 1)))) else (none)) else (none)) else (some ((⟨#[104, 116, 116, 112]⟩ : ByteArray), (⟨#[120, 46, 116, 101, 115, 116]⟩ : ByteArray), 80 + ((x0.size : Int) % 3), x5, (⟨#[]⟩ : ByteArray)))
end
def r13_Good.f (k : Nat) (a0 : ByteArray) : Option (ByteArray × ByteArray × Int × ByteArray × ByteArray) := (r13_Parse.f k a0).bind fun bt141 => (if bt141.2.2.2.2.2 = 0 then (some (bt141.1, bt141.2.1, bt141.2.2.1, bt141.2.2.2.1, bt141.2.2.2.2.1)) else (r13_Good.l0 k a0 (⟨#[47]⟩ : ByteArray) 0))
set_option maxHeartbeats 8000000 in
set_option maxRecDepth 100000 in
theorem r13_Good.calls (k : Nat) (a0 : ByteArray) (r1 : ByteArray) (r2 : ByteArray) (r3 : Int) (r4 : ByteArray) (r5 : ByteArray) (w : World) (h : r13_Good.f k a0 = some (r1, r2, r3, r4, r5)) :
  Calls Tryd.prog 82 #[.string a0] w fun e w' => e = .returned (.agg #[.string r1, .string r2, .int .i64 r3, .string r4, .string r5]) ∧ Below w.heap.size w w' := by
 have hu45 := Tryd.underlying45
 have HB := Aside0.mk (Below.refl w.heap.size w)
 have H := h
 unfold r13_Good.f at H
 clear h
 replace H := Option.bind_eq_some_iff.mp H
 obtain ⟨⟨t141, t142, t143, t144, t145, t146⟩, A20, H⟩ := H
 try dsimp only at H
 have A2 := Aside0.mk A20
 clear A20
 by_cases c3 : t146 = 0
 ·rw [if_pos c3] at H
  have c3b0 : (t146 == 0) = true := beq_iff_eq.mpr c3
  have c3b1 : (t146 != 0) = false := bne_eq_false_iff_eq.mpr c3
  clear c3
  simp only [Option.some.injEq, Prod.mk.injEq] at H
  obtain ⟨rfl, rfl, rfl, rfl, rfl⟩ := H
  go_enter Tryd.func82, Tryd.ntmps82
  go_wp2_with (first | ((with_reducible refine gate_dst (N := 2) rfl ?_); refine box_event ?hg (N := 2) ?hd (cs := #[.string (⟨#[]⟩ : ByteArray), .string (⟨#[]⟩ : ByteArray), .int .i64 0, .string (⟨#[]⟩ : ByteArray), .string (⟨#[]⟩ : ByteArray)]) (t := 45) ?hr ?_; (case hd => rfl); (case hg => rfl); (case hr => first | (go_simp; done) | (go_simp; rfl)); intro gb140 hg w4 hbox hb; have BK140 := Aside0.mk (hbox); have GW140 := Aside0.mk ((by rw [hg]; exact (below_size (bel_later HB.out)) : w.heap.size ≤ gb140)); have GE140 := Aside0.mk ((by rw [hg]; exact (below_size (bel_later HB.out)) : w.heap.size ≤ gb140)); replace HB := Aside0.mk (below_step (bel_later HB.out) hb); clear hb hbox hg) | ((with_reducible refine gate_callee (f := 105) rfl ?_); refine goesL_ (some 9) rfl rfl Tryd.func105 (by kernel_rfl) rfl #[.string a0] rfl (by (try simp only [List.map_toArray, List.map_cons, List.map_nil]); first | done | rfl) ?_; (with_reducible refine (r13_Parse.calls k a0 t141 t142 t143 t144 t145 t146 _ A2.out).mono ?_); rintro e w5 ⟨rfl, hb⟩; refine ⟨_, rfl, ?_⟩; replace BK140 := Aside0.mk (blk_below (blk_later BK140.out) hb); replace HB := Aside0.mk (below_step (bel_later HB.out) hb); (try clear hb); (try clear hb2); (try clear hk); (try clear hi)) | ((with_reducible refine gate_dst (N := 3) rfl ?_); refine box_event ?hg (N := 3) ?hd (cs := #[.string (⟨#[]⟩ : ByteArray), .string (⟨#[]⟩ : ByteArray), .int .i64 0, .string (⟨#[]⟩ : ByteArray), .string (⟨#[]⟩ : ByteArray)]) (t := 45) ?hr ?_; (case hd => rfl); (case hg => rfl); (case hr => first | (go_simp; done) | (go_simp; rfl)); intro gb147 hg w6 hbox hb; have BK147 := Aside0.mk (hbox); have GW147 := Aside0.mk ((by rw [hg]; exact (below_size (bel_later HB.out)) : w.heap.size ≤ gb147)); have GE147 := Aside0.mk ((by rw [hg]; exact (below_size (bel_later HB.out)) : w.heap.size ≤ gb147)); have NB140_147 := Aside0.mk ((by rw [hg]; exact Nat.ne_of_lt (blk_lt (blk_later BK140.out)) : gb140 ≠ gb147)); have NB147_140 := Aside0.mk ((by rw [hg]; exact Nat.ne_of_gt (blk_lt (blk_later BK140.out)) : gb147 ≠ gb140)); replace BK140 := Aside0.mk (blk_below (blk_later BK140.out) hb); replace HB := Aside0.mk (below_step (bel_later HB.out) hb); clear hb hbox hg; have hnb7 := NB147_140.out; have hnc7 := NB140_147.out; have hq1 := fun j => blk_cell BK147.out j; have hq4 := fun j => blk_frozen BK147.out j; have hq2 := fun j => blk_cell BK140.out j; have hq5 := fun j => blk_frozen BK140.out j))
  refine bodyPost_ret (results_cell_row rfl _ _ gb140 45 #[.string t141, .string t142, .int .i64 t143, .string t144, .string t145] (0, 0) _ rfl (by (with_reducible repeat (first | refine blk_drewN ?_ _ | refine blk_drew ?_ | refine blk_alloc ?_ _)); refine blk_put (cs := #[.string t141, .string t142, .int .i64 t143, .string t144, .string (⟨#[]⟩ : ByteArray)]) ?_ 4 _ rfl; refine blk_put (cs := #[.string t141, .string t142, .int .i64 t143, .string (⟨#[]⟩ : ByteArray), .string (⟨#[]⟩ : ByteArray)]) ?_ 3 _ rfl; refine blk_put (cs := #[.string t141, .string t142, .int .i64 0, .string (⟨#[]⟩ : ByteArray), .string (⟨#[]⟩ : ByteArray)]) ?_ 2 _ rfl; refine blk_put (cs := #[.string t141, .string (⟨#[]⟩ : ByteArray), .int .i64 0, .string (⟨#[]⟩ : ByteArray), .string (⟨#[]⟩ : ByteArray)]) ?_ 1 _ rfl; refine blk_put (cs := #[.string (⟨#[]⟩ : ByteArray), .string (⟨#[]⟩ : ByteArray), .int .i64 0, .string (⟨#[]⟩ : ByteArray), .string (⟨#[]⟩ : ByteArray)]) ?_ 0 _ rfl; refine blk_far ?_ NB140_147.out _; refine blk_far ?_ NB140_147.out _; refine blk_far ?_ NB140_147.out _; refine blk_far ?_ NB140_147.out _; refine blk_far ?_ NB140_147.out _; (with_reducible repeat (first | refine blk_drewN ?_ _ | refine blk_drew ?_ | refine blk_alloc ?_ _)); exact BK140.out) Tryd.underlying45 rfl (by kernel_rfl)) rfl ?_
  exact ⟨by first | rfl | (simp [errW_none, errW_some] <;> rfl) | (simp [*, errW_none, errW_some] <;> rfl), by repeat (first | (with_reducible first | exact HB.out | apply below_alloc | apply pw_below_drewN | apply below_drew1 | refine below_set ?_ GE140.out | refine below_set ?_ GE147.out) | exact HB.out)⟩
 rw [if_neg c3] at H
 have c3b0 : (t146 == 0) = false := beq_eq_false_iff_ne.mpr c3
 have c3b1 : (t146 != 0) = true := bne_iff_ne.mpr c3
 have H' := Aside0.mk H
 clear H
 go_enter Tryd.func82, Tryd.ntmps82
 go_wp2_with (first | ((with_reducible refine gate_dst (N := 2) rfl ?_); refine box_event ?hg (N := 2) ?hd (cs := #[.string (⟨#[]⟩ : ByteArray), .string (⟨#[]⟩ : ByteArray), .int .i64 0, .string (⟨#[]⟩ : ByteArray), .string (⟨#[]⟩ : ByteArray)]) (t := 45) ?hr ?_; (case hd => rfl); (case hg => rfl); (case hr => first | (go_simp; done) | (go_simp; rfl)); intro gb140 hg w10 hbox hb; have BK140 := Aside0.mk (hbox); have GW140 := Aside0.mk ((by rw [hg]; exact (below_size (bel_later HB.out)) : w.heap.size ≤ gb140)); have GE140 := Aside0.mk ((by rw [hg]; exact (below_size (bel_later HB.out)) : w.heap.size ≤ gb140)); replace HB := Aside0.mk (below_step (bel_later HB.out) hb); clear hb hbox hg) | ((with_reducible refine gate_callee (f := 105) rfl ?_); refine goesL_ (some 9) rfl rfl Tryd.func105 (by kernel_rfl) rfl #[.string a0] rfl (by (try simp only [List.map_toArray, List.map_cons, List.map_nil]); first | done | rfl) ?_; (with_reducible refine (r13_Parse.calls k a0 t141 t142 t143 t144 t145 t146 _ A2.out).mono ?_); rintro e w11 ⟨rfl, hb⟩; refine ⟨_, rfl, ?_⟩; replace BK140 := Aside0.mk (blk_below (blk_later BK140.out) hb); replace HB := Aside0.mk (below_step (bel_later HB.out) hb); (try clear hb); (try clear hb2); (try clear hk); (try clear hi)) | ((with_reducible refine gate_dst (N := 3) rfl ?_); refine box_event ?hg (N := 3) ?hd (cs := #[.string (⟨#[]⟩ : ByteArray), .string (⟨#[]⟩ : ByteArray), .int .i64 0, .string (⟨#[]⟩ : ByteArray), .string (⟨#[]⟩ : ByteArray)]) (t := 45) ?hr ?_; (case hd => rfl); (case hg => rfl); (case hr => first | (go_simp; done) | (go_simp; rfl)); intro gb147 hg w12 hbox hb; have BK147 := Aside0.mk (hbox); have GW147 := Aside0.mk ((by rw [hg]; exact (below_size (bel_later HB.out)) : w.heap.size ≤ gb147)); have GE147 := Aside0.mk ((by rw [hg]; exact (below_size (bel_later HB.out)) : w.heap.size ≤ gb147)); have NB140_147 := Aside0.mk ((by rw [hg]; exact Nat.ne_of_lt (blk_lt (blk_later BK140.out)) : gb140 ≠ gb147)); have NB147_140 := Aside0.mk ((by rw [hg]; exact Nat.ne_of_gt (blk_lt (blk_later BK140.out)) : gb147 ≠ gb140)); replace BK140 := Aside0.mk (blk_below (blk_later BK140.out) hb); replace HB := Aside0.mk (below_step (bel_later HB.out) hb); clear hb hbox hg; have hnb13 := NB147_140.out; have hnc13 := NB140_147.out; have hq3 := fun j => blk_cell BK147.out j; have hq6 := fun j => blk_frozen BK147.out j))
 go_loopg [5, 6] k (fun kq v5 v6 w' => ∃ (x5_1 : ByteArray) (x6_1 : Int), v5 = .string x5_1 ∧ v6 = .int .i64 x6_1 ∧ Aside0 (r13_Good.l0 kq a0 x5_1 x6_1 = some (r1, r2, r3, r4, r5)) ∧ Aside0 (kq ≤ k) ∧ Aside0 (w'.heap[gb140]? = some (.cells #[.string (⟨#[]⟩ : ByteArray), .string (⟨#[]⟩ : ByteArray), .int .i64 0, .string (⟨#[]⟩ : ByteArray), .string (⟨#[]⟩ : ByteArray)] 45 (0, 0))) ∧ Aside0 (w'.heap[gb147]? = some (.cells #[.string t141, .string t142, .int .i64 t143, .string t144, .string t145] 45 (0, 0))) ∧ Aside0 (Below w.heap.size w w'))
 case atStart => exact ⟨((⟨#[47]⟩ : ByteArray)), (0), (by first | rfl | (simp [bne, *]; done) | (simp; done)), (by first | rfl | (simp [bne, *]; done) | (simp; done)), H', ⟨Nat.le_refl _⟩, ⟨by (with_reducible repeat (first | refine blk_drewN ?_ _ | refine blk_drew ?_ | refine blk_alloc ?_ _)); refine blk_far ?_ NB140_147.out _; refine blk_far ?_ NB140_147.out _; refine blk_far ?_ NB140_147.out _; refine blk_far ?_ NB140_147.out _; refine blk_far ?_ NB140_147.out _; (with_reducible repeat (first | refine blk_drewN ?_ _ | refine blk_drew ?_ | refine blk_alloc ?_ _)); exact BK140.out⟩, ⟨by (with_reducible repeat (first | refine blk_drewN ?_ _ | refine blk_drew ?_ | refine blk_alloc ?_ _)); refine blk_put (cs := #[.string t141, .string t142, .int .i64 t143, .string t144, .string (⟨#[]⟩ : ByteArray)]) ?_ 4 _ rfl; refine blk_put (cs := #[.string t141, .string t142, .int .i64 t143, .string (⟨#[]⟩ : ByteArray), .string (⟨#[]⟩ : ByteArray)]) ?_ 3 _ rfl; refine blk_put (cs := #[.string t141, .string t142, .int .i64 0, .string (⟨#[]⟩ : ByteArray), .string (⟨#[]⟩ : ByteArray)]) ?_ 2 _ rfl; refine blk_put (cs := #[.string t141, .string (⟨#[]⟩ : ByteArray), .int .i64 0, .string (⟨#[]⟩ : ByteArray), .string (⟨#[]⟩ : ByteArray)]) ?_ 1 _ rfl; refine blk_put (cs := #[.string (⟨#[]⟩ : ByteArray), .string (⟨#[]⟩ : ByteArray), .int .i64 0, .string (⟨#[]⟩ : ByteArray), .string (⟨#[]⟩ : ByteArray)]) ?_ 0 _ rfl; (with_reducible repeat (first | refine blk_drewN ?_ _ | refine blk_drew ?_ | refine blk_alloc ?_ _)); exact BK147.out⟩, ⟨by repeat (first | (with_reducible first | exact HB.out | apply below_alloc | apply pw_below_drewN | apply below_drew1 | refine below_set ?_ GE140.out | refine below_set ?_ GE147.out) | exact HB.out)⟩⟩
 case round =>
  clear H'
  try clear c1
  try clear p2
  try clear c3
  try clear c3b0
  try clear c3b1
  try clear c7
  try clear c8
  try clear c10
  try clear c13
  try clear hcz14_0
  try clear hcz14_1
  try clear hcz14_2
  try clear hcz14_3
  try clear hcz14_4
  try clear hcz8_0
  try clear hcz8_1
  try clear hcz8_2
  try clear hcz8_3
  try clear hcz8_4
  try clear hcz9_0
  try clear hcz9_1
  try clear hcz9_2
  try clear hcz9_3
  try clear hcz9_4
  try clear hfz14_0
  try clear hfz14_1
  try clear hfz14_2
  try clear hfz14_3
  try clear hfz14_4
  try clear hfz8_0
  try clear hfz8_1
  try clear hfz8_2
  try clear hfz8_3
  try clear hfz8_4
  try clear hfz9_0
  try clear hfz9_1
  try clear hfz9_2
  try clear hfz9_3
  try clear hfz9_4
  obtain ⟨x5_1, x6_1, rfl, rfl, HA, HK1, BK140, BK147, HB⟩ := hrel
  cases gk with
  | zero => exact absurd HA.out (by simp [r13_Good.l0])
  | succ k1 =>
   have H := HA.out
   clear HA
   simp only [r13_Good.l0] at H
   have HC15 := Aside0.mk H
   clear H
   go_upto_region 6 with (fail)
   go_cut [22] (fun v22 wc => ∃ (kq : Nat) (x22_14 : Bool), v22 = .bool x22_14 ∧ Aside0 (r13_Good.j1 kq a0 x5_1 x6_1 x22_14 = some (r1, r2, r3, r4, r5)) ∧ Aside0 (kq ≤ k1) ∧ Aside0 (wc.heap[gb140]? = some (.cells #[.string (⟨#[]⟩ : ByteArray), .string (⟨#[]⟩ : ByteArray), .int .i64 0, .string (⟨#[]⟩ : ByteArray), .string (⟨#[]⟩ : ByteArray)] 45 (0, 0))) ∧ Aside0 (wc.heap[gb147]? = some (.cells #[.string t141, .string t142, .int .i64 t143, .string t144, .string t145] 45 (0, 0))) ∧ Aside0 (Below w.heap.size w wc))
   case first =>
    have H := HC15.out
    clear HC15
    by_cases c16 : x6_1 < (a0.size : Int)
    ·rw [if_pos c16] at H
     have c16b0 : decide (x6_1 < (a0.size : Int)) = true := decide_eq_true c16
     clear c16
     (first | rw [c16b0] | rw [c16b1] | (simp only [i64_w, i32_w]; rw [c16b0]) | skip)
     have H' := Aside0.mk H
     clear H
     go_wp2
     go_meet
     case rel => exact ⟨_, (decide (x6_1 < 9)), (by first | rfl | (simp [bne, *]; done) | (simp; done)), H', ⟨by have := HK1.out; first | omega | exact Nat.le_refl _⟩, ⟨by (with_reducible repeat (first | refine blk_drewN ?_ _ | refine blk_drew ?_ | refine blk_alloc ?_ _)); exact BK140.out⟩, ⟨by (with_reducible repeat (first | refine blk_drewN ?_ _ | refine blk_drew ?_ | refine blk_alloc ?_ _)); exact BK147.out⟩, ⟨by repeat (first | (with_reducible first | exact HB.out | apply below_alloc | apply pw_below_drewN | apply below_drew1 | refine below_set ?_ GE140.out | refine below_set ?_ GE147.out) | exact HB.out)⟩⟩
    rw [if_neg c16] at H
    have c16b0 : decide (x6_1 < (a0.size : Int)) = false := decide_eq_false c16
    clear c16
    (first | rw [c16b0] | rw [c16b1] | (simp only [i64_w, i32_w]; rw [c16b0]) | skip)
    have H' := Aside0.mk H
    clear H
    go_wp2
    go_meet
    case rel => exact ⟨_, (false), (by first | rfl | (simp [bne, *]; done) | (simp; done)), H', ⟨by have := HK1.out; first | omega | exact Nat.le_refl _⟩, ⟨by (with_reducible repeat (first | refine blk_drewN ?_ _ | refine blk_drew ?_ | refine blk_alloc ?_ _)); exact BK140.out⟩, ⟨by (with_reducible repeat (first | refine blk_drewN ?_ _ | refine blk_drew ?_ | refine blk_alloc ?_ _)); exact BK147.out⟩, ⟨by repeat (first | (with_reducible first | exact HB.out | apply below_alloc | apply pw_below_drewN | apply below_drew1 | refine below_set ?_ GE140.out | refine below_set ?_ GE147.out) | exact HB.out)⟩⟩
   case rest =>
    clear HC15
    try clear c1
    try clear p2
    try clear c3
    try clear c3b0
    try clear c3b1
    try clear c7
    try clear c8
    try clear c10
    try clear c13
    try clear c16
    try clear c16b0
    try clear hcz14_0
    try clear hcz14_1
    try clear hcz14_2
    try clear hcz14_3
    try clear hcz14_4
    try clear hcz8_0
    try clear hcz8_1
    try clear hcz8_2
    try clear hcz8_3
    try clear hcz8_4
    try clear hcz9_0
    try clear hcz9_1
    try clear hcz9_2
    try clear hcz9_3
    try clear hcz9_4
    try clear hfz14_0
    try clear hfz14_1
    try clear hfz14_2
    try clear hfz14_3
    try clear hfz14_4
    try clear hfz8_0
    try clear hfz8_1
    try clear hfz8_2
    try clear hfz8_3
    try clear hfz8_4
    try clear hfz9_0
    try clear hfz9_1
    try clear hfz9_2
    try clear hfz9_3
    try clear hfz9_4
    try clear p2
    obtain ⟨kq, x22_14, rfl, HA, HJ14, BK140, BK147, HB⟩ := hcut
    cases kq with
    | zero => exact absurd HA.out (by simp [r13_Good.j1])
    | succ kj14 =>
     have H := HA.out
     clear HA
     simp only [r13_Good.j1] at H
     by_cases c17 : x22_14 = true
     ·subst c17
      have H1 : (if 0 ≤ x6_1 then (if x6_1 < (a0.size : Int) then (if (bt a0 x6_1) ≥ 97 then (if (bt a0 x6_1) ≤ 122 then (if x6_1 ≤ (wrap64 (x6_1 + 1)) then (if (wrap64 (x6_1 + 1)) ≤ (a0.size : Int) then (if x5_1.size + (a0.extract (x6_1 : Int).toNat ((wrap64 (x6_1 + 1)) : Int).toNat).size ≤ 9223372036854775807 then (r13_Good.l0 kj14 a0 (x5_1 ++ (a0.extract (x6_1 : Int).toNat ((wrap64 (x6_1 + 1)) : Int).toNat)) (wrap64 (x6_1 + 1))) else (none)) else (none)) else (none)) else (r13_Good.l0 kj14 a0 x5_1 (wrap64 (x6_1 + 1)))) else (r13_Good.l0 kj14 a0 x5_1 (wrap64 (x6_1 + 1)))) else (none)) else (none)) = some (r1, r2, r3, r4, r5) := by rw [if_pos rfl] at H; exact H
      clear H
      have H := H1
      clear H1
      by_cases c18 : 0 ≤ x6_1
      ·rw [if_pos c18] at H
       have c18b0 : decide (0 ≤ x6_1) = true := decide_eq_true c18
       clear c18
       by_cases c19 : x6_1 < (a0.size : Int)
       ·rw [if_pos c19] at H
        have c19b0 : decide (x6_1 < (a0.size : Int)) = true := decide_eq_true c19
        clear c19
        by_cases c21 : (bt a0 x6_1) ≥ 97
        ·rw [if_pos c21] at H
         have c21b0 : decide (97 ≤ (bt a0 x6_1)) = true := decide_eq_true c21
         clear c21
         by_cases c23 : (bt a0 x6_1) ≤ 122
         ·rw [if_pos c23] at H
          have c23b0 : decide ((bt a0 x6_1) ≤ 122) = true := decide_eq_true c23
          clear c23
          have c24b0 := eq_true (of_decide_eq_true (by first | (with_reducible assumption) | assumption) : 0 ≤ x6_1)
          by_cases c25 : x6_1 ≤ (wrap64 (x6_1 + 1))
          ·rw [if_pos c25] at H
           have c25b0 := eq_true c25
           have c25b1 : decide (x6_1 ≤ (wrap64 (x6_1 + 1))) = true := decide_eq_true c25
           by_cases c26 : (wrap64 (x6_1 + 1)) ≤ (a0.size : Int)
           ·rw [if_pos c26] at H
            have c26b0 := eq_true c26
            have c26b1 : decide ((wrap64 (x6_1 + 1)) ≤ (a0.size : Int)) = true := decide_eq_true c26
            by_cases c27 : x5_1.size + (a0.extract (x6_1 : Int).toNat ((wrap64 (x6_1 + 1)) : Int).toNat).size ≤ 9223372036854775807
            ·rw [if_pos c27] at H
             have c27b0 := eq_true c27
             have c27b1 : decide (x5_1.size + (a0.extract (x6_1 : Int).toNat ((wrap64 (x6_1 + 1)) : Int).toNat).size ≤ 9223372036854775807) = true := decide_eq_true c27
             try have c27b2 : (9223372036854775807 < x5_1.size + (a0.extract (x6_1 : Int).toNat ((wrap64 (x6_1 + 1)) : Int).toNat).size) = False := eq_false (Nat.not_lt.2 c27)
             try have c27b3 : (9223372036854775807 < x5_1.size + (((wrap64 (x6_1 + 1)) : Int).toNat - (x6_1 : Int).toNat)) = False := eq_false (Nat.not_lt.2 (by have h1_ := c27; have h2_ : (wrap64 (x6_1 + 1)) ≤ (a0.size : Int) := of_decide_eq_true (by assumption); rw [ByteArray.size_extract, Nat.min_eq_left (by omega)] at h1_; exact h1_))
             have H' := Aside0.mk H
             clear H
             have p20 : 0 ≤ (x6_1 : Int) := of_decide_eq_true (by first | (with_reducible assumption) | assumption)
             have q20 : x6_1 < (a0.size : Int) := of_decide_eq_true (by first | (with_reducible assumption) | assumption)
             have hx20 := bt_at a0 x6_1
             replace p20 := eq_true p20
             replace q20 := eq_true q20
             have p22 : 0 ≤ (x6_1 : Int) := of_decide_eq_true (by first | (with_reducible assumption) | assumption)
             have q22 : x6_1 < (a0.size : Int) := of_decide_eq_true (by first | (with_reducible assumption) | assumption)
             have hx22 := bt_at a0 x6_1
             replace p22 := eq_true p22
             replace q22 := eq_true q22
             go_wp2
             go_roundg kj14
             case measure => have := HK1.out; have := HJ14.out; omega
             case rel => exact ⟨(x5_1 ++ (a0.extract (x6_1 : Int).toNat ((wrap64 (x6_1 + 1)) : Int).toNat)), (wrap64 (x6_1 + 1)), (by first | rfl | (simp [bne, *]; done) | (simp; done)), (by first | rfl | (simp [bne, *]; done) | (simp; done)), H', ⟨by have := HK1.out; have := HJ14.out; omega⟩, ⟨by (with_reducible repeat (first | refine blk_drewN ?_ _ | refine blk_drew ?_ | refine blk_alloc ?_ _)); exact BK140.out⟩, ⟨by (with_reducible repeat (first | refine blk_drewN ?_ _ | refine blk_drew ?_ | refine blk_alloc ?_ _)); exact BK147.out⟩, ⟨by repeat (first | (with_reducible first | exact HB.out | apply below_alloc | apply pw_below_drewN | apply below_drew1 | refine below_set ?_ GE140.out | refine below_set ?_ GE147.out) | exact HB.out)⟩⟩
            rw [if_neg c27] at H
            exact absurd H (by simp)
           rw [if_neg c26] at H
           exact absurd H (by simp)
          rw [if_neg c25] at H
          exact absurd H (by simp)
         rw [if_neg c23] at H
         have c23b0 : decide ((bt a0 x6_1) ≤ 122) = false := decide_eq_false c23
         clear c23
         have H' := Aside0.mk H
         clear H
         have p20 : 0 ≤ (x6_1 : Int) := of_decide_eq_true (by first | (with_reducible assumption) | assumption)
         have q20 : x6_1 < (a0.size : Int) := of_decide_eq_true (by first | (with_reducible assumption) | assumption)
         have hx20 := bt_at a0 x6_1
         replace p20 := eq_true p20
         replace q20 := eq_true q20
         have p22 : 0 ≤ (x6_1 : Int) := of_decide_eq_true (by first | (with_reducible assumption) | assumption)
         have q22 : x6_1 < (a0.size : Int) := of_decide_eq_true (by first | (with_reducible assumption) | assumption)
         have hx22 := bt_at a0 x6_1
         replace p22 := eq_true p22
         replace q22 := eq_true q22
         go_wp2
         go_roundg kj14
         case measure => have := HK1.out; have := HJ14.out; omega
         case rel => exact ⟨(x5_1), (wrap64 (x6_1 + 1)), (by first | rfl | (simp [bne, *]; done) | (simp; done)), (by first | rfl | (simp [bne, *]; done) | (simp; done)), H', ⟨by have := HK1.out; have := HJ14.out; omega⟩, ⟨by (with_reducible repeat (first | refine blk_drewN ?_ _ | refine blk_drew ?_ | refine blk_alloc ?_ _)); exact BK140.out⟩, ⟨by (with_reducible repeat (first | refine blk_drewN ?_ _ | refine blk_drew ?_ | refine blk_alloc ?_ _)); exact BK147.out⟩, ⟨by repeat (first | (with_reducible first | exact HB.out | apply below_alloc | apply pw_below_drewN | apply below_drew1 | refine below_set ?_ GE140.out | refine below_set ?_ GE147.out) | exact HB.out)⟩⟩
        rw [if_neg c21] at H
        have c21b0 : decide (97 ≤ (bt a0 x6_1)) = false := decide_eq_false c21
        clear c21
        have H' := Aside0.mk H
        clear H
        have p20 : 0 ≤ (x6_1 : Int) := of_decide_eq_true (by first | (with_reducible assumption) | assumption)
        have q20 : x6_1 < (a0.size : Int) := of_decide_eq_true (by first | (with_reducible assumption) | assumption)
        have hx20 := bt_at a0 x6_1
        replace p20 := eq_true p20
        replace q20 := eq_true q20
        go_wp2
        go_roundg kj14
        case measure => have := HK1.out; have := HJ14.out; omega
        case rel => exact ⟨(x5_1), (wrap64 (x6_1 + 1)), (by first | rfl | (simp [bne, *]; done) | (simp; done)), (by first | rfl | (simp [bne, *]; done) | (simp; done)), H', ⟨by have := HK1.out; have := HJ14.out; omega⟩, ⟨by (with_reducible repeat (first | refine blk_drewN ?_ _ | refine blk_drew ?_ | refine blk_alloc ?_ _)); exact BK140.out⟩, ⟨by (with_reducible repeat (first | refine blk_drewN ?_ _ | refine blk_drew ?_ | refine blk_alloc ?_ _)); exact BK147.out⟩, ⟨by repeat (first | (with_reducible first | exact HB.out | apply below_alloc | apply pw_below_drewN | apply below_drew1 | refine below_set ?_ GE140.out | refine below_set ?_ GE147.out) | exact HB.out)⟩⟩
       rw [if_neg c19] at H
       exact absurd H (by simp)
      rw [if_neg c18] at H
      exact absurd H (by simp)
     replace c17 := Bool.eq_false_iff.mpr c17
     subst c17
     have H1 : (some ((⟨#[104, 116, 116, 112]⟩ : ByteArray), (⟨#[120, 46, 116, 101, 115, 116]⟩ : ByteArray), 80 + ((a0.size : Int) % 3), x5_1, (⟨#[]⟩ : ByteArray))) = some (r1, r2, r3, r4, r5) := by rw [if_neg (show ¬ (false = true) by decide)] at H; exact H
     clear H
     have H := H1
     clear H1
     simp only [Option.some.injEq, Prod.mk.injEq] at H
     obtain ⟨rfl, rfl, rfl, rfl, rfl⟩ := H
     have hnb28 := NB140_147.out
     have hnc28 := NB147_140.out
     have hcz29_0 : wc.cell? ⟨gb140, 0, none⟩ = some (.string (⟨#[]⟩ : ByteArray)) := (blk_cell BK140.out 0).trans rfl
     have hcz29_1 : wc.cell? ⟨gb140, 1, none⟩ = some (.string (⟨#[]⟩ : ByteArray)) := (blk_cell BK140.out 1).trans rfl
     have hcz29_2 : wc.cell? ⟨gb140, 2, none⟩ = some (.int .i64 0) := (blk_cell BK140.out 2).trans rfl
     have hcz29_3 : wc.cell? ⟨gb140, 3, none⟩ = some (.string (⟨#[]⟩ : ByteArray)) := (blk_cell BK140.out 3).trans rfl
     have hcz29_4 : wc.cell? ⟨gb140, 4, none⟩ = some (.string (⟨#[]⟩ : ByteArray)) := (blk_cell BK140.out 4).trans rfl
     have hq7 := fun j => blk_frozen BK140.out j
     go_wp2
     refine bodyPost_ret (results_cell_row rfl _ _ gb140 45 #[.string (⟨#[104, 116, 116, 112]⟩ : ByteArray), .string (⟨#[120, 46, 116, 101, 115, 116]⟩ : ByteArray), .int .i64 (80 + ((a0.size : Int) % 3)), .string x5_1, .string (⟨#[]⟩ : ByteArray)] (0, 0) _ rfl (blk_sets BK140.out) Tryd.underlying45 rfl (by kernel_rfl)) rfl ?_
     exact ⟨by first | rfl | (simp [errW_none, errW_some] <;> rfl) | (simp [*, errW_none, errW_some] <;> rfl), by repeat (first | (with_reducible first | exact HB.out | apply below_alloc | apply pw_below_drewN | apply below_drew1 | refine below_set ?_ GE140.out | refine below_set ?_ GE147.out) | exact HB.out)⟩


/-! ### r17_Make: function 44 -/
mutual
def r17_Make.j0 : Nat → List ByteArray → Bool → ByteArray → ByteArray → Int → ByteArray → ByteArray → Int → ByteArray → ByteArray → ByteArray → Bool → Option (ByteArray × ByteArray × Int × ByteArray × ByteArray × Int × ByteArray × ByteArray × ByteArray × List ByteArray × Bool)
 | 0, _, _, _, _, _, _, _, _, _, _, _, _ => none
 | k + 1, x3, x31, x163000, x163001, x163002, x163003, x163004, x163005, x163006, x163007, x163008, x163010 => if x31 = true then (r17_Make.j1 k x3 x163000 x163001 x163002 x163003 x163004 x163005 x163006 x163007 (⟨#[80, 85, 84]⟩ : ByteArray) x163010) else (r17_Make.j1 k x3 x163000 x163001 x163002 x163003 x163004 x163005 x163006 x163007 x163008 x163010)
def r17_Make.j1 : Nat → List ByteArray → ByteArray → ByteArray → Int → ByteArray → ByteArray → Int → ByteArray → ByteArray → ByteArray → Bool → Option (ByteArray × ByteArray × Int × ByteArray × ByteArray × Int × ByteArray × ByteArray × ByteArray × List ByteArray × Bool)
 | 0, _, _, _, _, _, _, _, _, _, _, _ => none
 | k + 1, x3, x163000, x163001, x163002, x163003, x163004, x163005, x163006, x163007, x163008, x163010 => r17_Make.l0 k x3 0 x163000 x163001 x163002 x163003 x163004 x163005 x163006 x163007 x163008 ([] : List ByteArray) x163010
def r17_Make.l0 : Nat → List ByteArray → Int → ByteArray → ByteArray → Int → ByteArray → ByteArray → Int → ByteArray → ByteArray → ByteArray → List ByteArray → Bool → Option (ByteArray × ByteArray × Int × ByteArray × ByteArray × Int × ByteArray × ByteArray × ByteArray × List ByteArray × Bool)
 | 0, _, _, _, _, _, _, _, _, _, _, _, _, _ => none
 | k + 1, x3, x13, x163000, x163001, x163002, x163003, x163004, x163005, x163006, x163007, x163008, x163009, x163010 => if x13 < (x3.length : Int) then (r17_Make.j3 k x3 x13 (decide ((x163009.length : Int) < 4)) x163000 x163001 x163002 x163003 x163004 x163005 x163006 x163007 x163008 x163009 x163010) else (r17_Make.j3 k x3 x13 false x163000 x163001 x163002 x163003 x163004 x163005 x163006 x163007 x163008 x163009 x163010)
def r17_Make.j3 : Nat → List ByteArray → Int → Bool → ByteArray → ByteArray → Int → ByteArray → ByteArray → Int → ByteArray → ByteArray → ByteArray → List ByteArray → Bool → Option (ByteArray × ByteArray × Int × ByteArray × ByteArray × Int × ByteArray × ByteArray × ByteArray × List ByteArray × Bool)
 | 0, _, _, _, _, _, _, _, _, _, _, _, _, _, _ => none
 | k + 1, x3, x13, x42, x163000, x163001, x163002, x163003, x163004, x163005, x163006, x163007, x163008, x163009, x163010 => if x42 = true then (if 0 ≤ x13 then (if x13 < (x3.length : Int) then ((r01_Token.f k (rdOf ByteArray.empty x3 x13)).bind fun t165 => (if t165 = true then (if ((rdOf ByteArray.empty x3 x13).size : Int) ≤ 20 then (if x163009.length < 8796093022208 then (r17_Make.l0 k x3 (wrap64 (x13 + 1)) x163000 x163001 x163002 x163003 x163004 x163005 x163006 x163007 x163008 (x163009 ++ [rdOf ByteArray.empty x3 x13]) x163010) else (none)) else (r17_Make.l0 k x3 (wrap64 (x13 + 1)) x163000 x163001 x163002 x163003 x163004 x163005 x163006 x163007 x163008 x163009 x163010)) else (r17_Make.l0 k x3 (wrap64 (x13 + 1)) x163000 x163001 x163002 x163003 x163004 x163005 x163006 x163007 x163008 x163009 x163010))) else (none)) else (none)) else (some (x163000, x163001, x163002, x163003, x163004, x163005, x163006, x163007, x163008, x163009, x163010))
end
def r17_Make.f (k : Nat) (a0 : ByteArray) (a1 : ByteArray) (a2 : ByteArray) (l3 : List ByteArray) (a4 : Bool) : Option (ByteArray × ByteArray × Int × ByteArray × ByteArray × Int × ByteArray × ByteArray × ByteArray × List ByteArray × Bool) := (r13_Good.f k a0).bind fun bt149 => ((r13_Origin.f bt149.1 bt149.2.1 bt149.2.2.1 bt149.2.2.2.1 bt149.2.2.2.2).bind fun bt154 => ((r13_Good.f k a1).bind fun bt157 => ((r01_Token.f k a2).bind fun t163 => (if t163 = true then (r17_Make.j0 k l3 (decide ((a2.size : Int) > 20)) bt154.1 bt154.2.1 bt154.2.2 bt157.1 bt157.2.1 bt157.2.2.1 bt157.2.2.2.1 bt157.2.2.2.2 a2 a4) else (r17_Make.j0 k l3 true bt154.1 bt154.2.1 bt154.2.2 bt157.1 bt157.2.1 bt157.2.2.1 bt157.2.2.2.1 bt157.2.2.2.2 a2 a4)))))
def r17_Make.T10 : Bool × List (List Nat × List Nat) := (true, [([], []), ([0], [0]), ([], []), ([], []), ([2, 3], [2, 3]), ([4], [4]), ([5], [5]), ([1, 6], [1, 6]), ([0, 1, 2, 3, 4, 5, 6, 7], []), ([8, 7, 7, 0, 1, 2, 3, 4, 5, 6, 7], [7, 8])])
def r17_Make.B10 : List Nat := [0, 1, 0, 0, 12, 28, 60, 127, 255, 511]
theorem r17_Make.tab10 : rtab .any (opsOf Tryd.f44 10) = r17_Make.T10 := by kernel_rfl
theorem r17_Make.bits10 : waitsOk r17_Make.T10.2 r17_Make.B10 = true := by kernel_rfl
set_option maxHeartbeats 8000000 in
set_option maxRecDepth 100000 in
theorem r17_Make.calls (k : Nat) (a0 : ByteArray) (a1 : ByteArray) (a2 : ByteArray) (A3 : Option Addr) (c3 : Nat) (l3 : List ByteArray) (a4 : Bool) (r1 : ByteArray) (r2 : ByteArray) (r3 : Int) (r4 : ByteArray) (r5 : ByteArray) (r6 : Int) (r7 : ByteArray) (r8 : ByteArray) (r9 : ByteArray) (r10 : List ByteArray) (r11 : Bool) (w : World) (hr3 : Kd.C Kd.string w A3 l3.length l3) (hc3 : l3.length ≤ c3) (h : r17_Make.f k a0 a1 a2 l3 a4 = some (r1, r2, r3, r4, r5, r6, r7, r8, r9, r10, r11)) :
  Calls Tryd.prog 44 #[.string a0, .string a1, .string a2, .slice A3 l3.length c3, .bool a4] w fun e w' => ∃ v9_ : Value, e = .returned (.agg #[.string r1, .string r2, .int .i64 r3, .string r4, .string r5, .int .i64 r6, .string r7, .string r8, .string r9, v9_, .bool r11]) ∧ Kd.R Kd.string 9 w' w.heap.size (fun _ => True) v9_ r10 ∧ Below w.heap.size w w' := by
 have hu48 := Tryd.underlying48
 have HR3 := Aside0.mk hr3
 have HC3 := Aside0.mk hc3
 clear hr3 hc3
 have HB := Aside0.mk (Below.refl w.heap.size w)
 have H := h
 unfold r17_Make.f at H
 clear h
 replace H := Option.bind_eq_some_iff.mp H
 obtain ⟨⟨t149, t150, t151, t152, t153⟩, A60, H⟩ := H
 try dsimp only at H
 have A6 := Aside0.mk A60
 clear A60
 replace H := Option.bind_eq_some_iff.mp H
 obtain ⟨⟨t154, t155, t156⟩, A70, H⟩ := H
 try dsimp only at H
 have A7 := Aside0.mk A70
 clear A70
 replace H := Option.bind_eq_some_iff.mp H
 obtain ⟨⟨t157, t158, t159, t160, t161⟩, A80, H⟩ := H
 try dsimp only at H
 have A8 := Aside0.mk A80
 clear A80
 replace H := Option.bind_eq_some_iff.mp H
 obtain ⟨t163, A90, H⟩ := H
 try dsimp only at H
 have A9 := Aside0.mk A90
 clear A90
 have HC10 := Aside0.mk H
 clear H
 go_enter Tryd.func44, Tryd.ntmps44
 go_upto_region 3 with (first | ((with_reducible refine gate_dst (N := 10) rfl ?_); (try (refine gate_guard (by rfl) ?_; dsimp only)); refine box_event ?hg (N := 10) ?hd (cs := #[.string (⟨#[]⟩ : ByteArray), .string (⟨#[]⟩ : ByteArray), .int .i64 0, .string (⟨#[]⟩ : ByteArray), .string (⟨#[]⟩ : ByteArray), .int .i64 0, .string (⟨#[]⟩ : ByteArray), .string (⟨#[]⟩ : ByteArray), .string (⟨#[]⟩ : ByteArray), .slice none 0 0, .bool false]) (t := 48) ?hr ?_; (case hd => rfl); (case hg => rfl); (case hr => first | (go_simp; done) | (go_simp; rfl)); intro gb148 hg w11 hbox hb; have BK148 := Aside0.mk (hbox); have GW148 := Aside0.mk ((by rw [hg]; exact (below_size (bel_later HB.out)) : w.heap.size ≤ gb148)); have GE148 := Aside0.mk ((by rw [hg]; exact (below_size (bel_later HB.out)) : w.heap.size ≤ gb148)); replace HB := Aside0.mk (below_step (bel_later HB.out) hb); clear hb hbox hg) | ((with_reducible refine gate_callee (f := 82) rfl ?_); refine goesL_ (some 16) rfl rfl Tryd.func82 (by kernel_rfl) rfl #[.string a0] rfl (by (try simp only [List.map_toArray, List.map_cons, List.map_nil]); first | done | rfl) ?_; (with_reducible refine (r13_Good.calls k a0 t149 t150 t151 t152 t153 _ A6.out).mono ?_); rintro e w12 ⟨rfl, hb⟩; refine ⟨_, rfl, ?_⟩; replace BK148 := Aside0.mk (blk_below (blk_later BK148.out) hb); replace HB := Aside0.mk (below_step (by repeat (first | (with_reducible first | exact HB.out | apply below_alloc | apply pw_below_drewN | apply below_drew1 | refine below_set ?_ GE148.out) | exact HB.out)) hb); (try clear hb); (try clear hb2); (try clear hk); (try clear hi)) | ((with_reducible refine gate_callee (f := 59) rfl ?_); refine goesL_ (some 17) rfl rfl Tryd.func59 (by kernel_rfl) rfl #[.agg #[.string t149, .string t150, .int .i64 t151, .string t152, .string t153]] rfl (by (try simp only [List.map_toArray, List.map_cons, List.map_nil]); first | done | rfl) ?_; (with_reducible refine (r13_Origin.calls t149 t150 t151 t152 t153 t154 t155 t156 _ A7.out).mono ?_); rintro e w13 ⟨rfl, hb⟩; refine ⟨_, rfl, ?_⟩; replace BK148 := Aside0.mk (blk_below (blk_later BK148.out) hb); replace HB := Aside0.mk (below_step (by repeat (first | (with_reducible first | exact HB.out | apply below_alloc | apply pw_below_drewN | apply below_drew1 | refine below_set ?_ GE148.out) | exact HB.out)) hb); (try clear hb); (try clear hb2); (try clear hk); (try clear hi)) | ((with_reducible refine gate_callee (f := 82) rfl ?_); refine goesL_ (some 19) rfl rfl Tryd.func82 (by kernel_rfl) rfl #[.string a1] rfl (by (try simp only [List.map_toArray, List.map_cons, List.map_nil]); first | done | rfl) ?_; (with_reducible refine (r13_Good.calls k a1 t157 t158 t159 t160 t161 _ A8.out).mono ?_); rintro e w14 ⟨rfl, hb⟩; refine ⟨_, rfl, ?_⟩; replace BK148 := Aside0.mk (blk_below (blk_later BK148.out) hb); replace HB := Aside0.mk (below_step (by repeat (first | (with_reducible first | exact HB.out | apply below_alloc | apply pw_below_drewN | apply below_drew1 | refine below_set ?_ GE148.out) | exact HB.out)) hb); (try clear hb); (try clear hb2); (try clear hk); (try clear hi)) | ((with_reducible refine gate_dst (N := 11) rfl ?_); (try (refine gate_guard (by rfl) ?_; dsimp only)); refine box_event ?hg (N := 11) ?hd (cs := #[.string (⟨#[]⟩ : ByteArray), .string (⟨#[]⟩ : ByteArray), .int .i64 0, .string (⟨#[]⟩ : ByteArray), .string (⟨#[]⟩ : ByteArray), .int .i64 0, .string (⟨#[]⟩ : ByteArray), .string (⟨#[]⟩ : ByteArray), .string (⟨#[]⟩ : ByteArray), .slice none 0 0, .bool false]) (t := 48) ?hr ?_; (case hd => rfl); (case hg => rfl); (case hr => first | (go_simp; done) | (go_simp; rfl)); intro gb162 hg w15 hbox hb; have BK162 := Aside0.mk (hbox); have GW162 := Aside0.mk ((by rw [hg]; exact (below_size (by repeat (first | (with_reducible first | exact HB.out | apply below_alloc | apply pw_below_drewN | apply below_drew1 | refine below_set ?_ GE148.out) | exact HB.out))) : w.heap.size ≤ gb162)); have GE162 := Aside0.mk ((by rw [hg]; exact (below_size (by repeat (first | (with_reducible first | exact HB.out | apply below_alloc | apply pw_below_drewN | apply below_drew1 | refine below_set ?_ GE148.out) | exact HB.out))) : w.heap.size ≤ gb162)); have NB148_162 := Aside0.mk ((by rw [hg]; exact Nat.ne_of_lt (blk_lt (blk_later BK148.out)) : gb148 ≠ gb162)); have NB162_148 := Aside0.mk ((by rw [hg]; exact Nat.ne_of_gt (blk_lt (blk_later BK148.out)) : gb162 ≠ gb148)); replace BK148 := Aside0.mk (blk_below (blk_later BK148.out) hb); replace HB := Aside0.mk (below_step (by repeat (first | (with_reducible first | exact HB.out | apply below_alloc | apply pw_below_drewN | apply below_drew1 | refine below_set ?_ GE148.out) | exact HB.out)) hb); clear hb hbox hg; have hnb16 := NB162_148.out; have hnc16 := NB148_162.out; have hq1 := fun j => blk_cell BK162.out j; have hq3 := fun j => blk_frozen BK162.out j) | ((with_reducible refine gate_callee (f := 53) rfl ?_); refine goesL_ (some 24) rfl rfl Tryd.func53 (by kernel_rfl) rfl #[.string a2] rfl (by (try simp only [List.map_toArray, List.map_cons, List.map_nil]); first | done | rfl) ?_; (with_reducible refine (r01_Token.calls k a2 t163 _ A9.out).mono ?_); rintro e w' ⟨rfl, ⟨nd, rfl⟩⟩; refine ⟨_, rfl, ?_⟩))
 (try simp only [Act.put, List.setIfInBounds_toArray, List.set_cons_zero, List.set_cons_succ])
 go_cut [31] (fun v31 wc => ∃ (kq : Nat) (x31_9 : Bool), v31 = .bool x31_9 ∧ Aside0 (r17_Make.j0 kq l3 x31_9 t154 t155 t156 t157 t158 t159 t160 t161 a2 a4 = some (r1, r2, r3, r4, r5, r6, r7, r8, r9, r10, r11)) ∧ Aside0 (kq ≤ k) ∧ Aside0 (wc.heap[gb148]? = some (.cells #[.string (⟨#[]⟩ : ByteArray), .string (⟨#[]⟩ : ByteArray), .int .i64 0, .string (⟨#[]⟩ : ByteArray), .string (⟨#[]⟩ : ByteArray), .int .i64 0, .string (⟨#[]⟩ : ByteArray), .string (⟨#[]⟩ : ByteArray), .string (⟨#[]⟩ : ByteArray), (.slice none 0 0), .bool false] 48 (0, 0))) ∧ Aside0 (wc.heap[gb162]? = some (.cells #[.string t154, .string t155, .int .i64 t156, .string t157, .string t158, .int .i64 t159, .string t160, .string t161, .string a2, (.slice none 0 0), .bool a4] 48 (0, 0))) ∧ Aside0 (Below w.heap.size w wc))
 case first =>
  have H := HC10.out
  clear HC10
  by_cases c18 : t163 = true
  ·subst c18
   have H1 : (r17_Make.j0 k l3 (decide ((a2.size : Int) > 20)) t154 t155 t156 t157 t158 t159 t160 t161 a2 a4) = some (r1, r2, r3, r4, r5, r6, r7, r8, r9, r10, r11) := by rw [if_pos rfl] at H; exact H
   clear H
   have H := H1
   clear H1
   have H' := Aside0.mk H
   clear H
   go_wp2
   go_meet
   case rel => exact ⟨_, (decide ((a2.size : Int) > 20)), (by first | rfl | (simp [bne, *]; done) | (simp; done)), H', ⟨by first | omega | exact Nat.le_refl _⟩, ⟨by (with_reducible repeat (first | refine blk_drewN ?_ _ | refine blk_drew ?_ | refine blk_alloc ?_ _)); refine blk_far ?_ NB148_162.out _; refine blk_far ?_ NB148_162.out _; refine blk_far ?_ NB148_162.out _; refine blk_far ?_ NB148_162.out _; refine blk_far ?_ NB148_162.out _; refine blk_far ?_ NB148_162.out _; refine blk_far ?_ NB148_162.out _; refine blk_far ?_ NB148_162.out _; refine blk_far ?_ NB148_162.out _; refine blk_far ?_ NB148_162.out _; refine blk_far ?_ NB148_162.out _; (with_reducible repeat (first | refine blk_drewN ?_ _ | refine blk_drew ?_ | refine blk_alloc ?_ _)); exact BK148.out⟩, ⟨by (with_reducible repeat (first | refine blk_drewN ?_ _ | refine blk_drew ?_ | refine blk_alloc ?_ _)); refine blk_put (cs := #[.string t154, .string t155, .int .i64 t156, .string t157, .string t158, .int .i64 t159, .string t160, .string t161, .string a2, .slice none 0 0, .bool false]) ?_ 10 _ rfl; refine blk_put (cs := #[.string t154, .string t155, .int .i64 t156, .string t157, .string t158, .int .i64 t159, .string t160, .string t161, .string a2, .slice none 0 0, .bool false]) ?_ 9 _ rfl; refine blk_put (cs := #[.string t154, .string t155, .int .i64 t156, .string t157, .string t158, .int .i64 t159, .string t160, .string t161, .string (⟨#[]⟩ : ByteArray), .slice none 0 0, .bool false]) ?_ 8 _ rfl; refine blk_put (cs := #[.string t154, .string t155, .int .i64 t156, .string t157, .string t158, .int .i64 t159, .string t160, .string (⟨#[]⟩ : ByteArray), .string (⟨#[]⟩ : ByteArray), .slice none 0 0, .bool false]) ?_ 7 _ rfl; refine blk_put (cs := #[.string t154, .string t155, .int .i64 t156, .string t157, .string t158, .int .i64 t159, .string (⟨#[]⟩ : ByteArray), .string (⟨#[]⟩ : ByteArray), .string (⟨#[]⟩ : ByteArray), .slice none 0 0, .bool false]) ?_ 6 _ rfl; refine blk_put (cs := #[.string t154, .string t155, .int .i64 t156, .string t157, .string t158, .int .i64 0, .string (⟨#[]⟩ : ByteArray), .string (⟨#[]⟩ : ByteArray), .string (⟨#[]⟩ : ByteArray), .slice none 0 0, .bool false]) ?_ 5 _ rfl; refine blk_put (cs := #[.string t154, .string t155, .int .i64 t156, .string t157, .string (⟨#[]⟩ : ByteArray), .int .i64 0, .string (⟨#[]⟩ : ByteArray), .string (⟨#[]⟩ : ByteArray), .string (⟨#[]⟩ : ByteArray), .slice none 0 0, .bool false]) ?_ 4 _ rfl; refine blk_put (cs := #[.string t154, .string t155, .int .i64 t156, .string (⟨#[]⟩ : ByteArray), .string (⟨#[]⟩ : ByteArray), .int .i64 0, .string (⟨#[]⟩ : ByteArray), .string (⟨#[]⟩ : ByteArray), .string (⟨#[]⟩ : ByteArray), .slice none 0 0, .bool false]) ?_ 3 _ rfl; refine blk_put (cs := #[.string t154, .string t155, .int .i64 0, .string (⟨#[]⟩ : ByteArray), .string (⟨#[]⟩ : ByteArray), .int .i64 0, .string (⟨#[]⟩ : ByteArray), .string (⟨#[]⟩ : ByteArray), .string (⟨#[]⟩ : ByteArray), .slice none 0 0, .bool false]) ?_ 2 _ rfl; refine blk_put (cs := #[.string t154, .string (⟨#[]⟩ : ByteArray), .int .i64 0, .string (⟨#[]⟩ : ByteArray), .string (⟨#[]⟩ : ByteArray), .int .i64 0, .string (⟨#[]⟩ : ByteArray), .string (⟨#[]⟩ : ByteArray), .string (⟨#[]⟩ : ByteArray), .slice none 0 0, .bool false]) ?_ 1 _ rfl; refine blk_put (cs := #[.string (⟨#[]⟩ : ByteArray), .string (⟨#[]⟩ : ByteArray), .int .i64 0, .string (⟨#[]⟩ : ByteArray), .string (⟨#[]⟩ : ByteArray), .int .i64 0, .string (⟨#[]⟩ : ByteArray), .string (⟨#[]⟩ : ByteArray), .string (⟨#[]⟩ : ByteArray), .slice none 0 0, .bool false]) ?_ 0 _ rfl; (with_reducible repeat (first | refine blk_drewN ?_ _ | refine blk_drew ?_ | refine blk_alloc ?_ _)); exact BK162.out⟩, ⟨by repeat (first | (with_reducible first | exact HB.out | apply below_alloc | apply pw_below_drewN | apply below_drew1 | refine below_set ?_ GE148.out | refine below_set ?_ GE162.out) | exact HB.out)⟩⟩
  replace c18 := Bool.eq_false_iff.mpr c18
  subst c18
  have H1 : (r17_Make.j0 k l3 true t154 t155 t156 t157 t158 t159 t160 t161 a2 a4) = some (r1, r2, r3, r4, r5, r6, r7, r8, r9, r10, r11) := by rw [if_neg (show ¬ (false = true) by decide)] at H; exact H
  clear H
  have H := H1
  clear H1
  have H' := Aside0.mk H
  clear H
  go_wp2
  go_meet
  case rel => exact ⟨_, (true), (by first | rfl | (simp [bne, *]; done) | (simp; done)), H', ⟨by first | omega | exact Nat.le_refl _⟩, ⟨by (with_reducible repeat (first | refine blk_drewN ?_ _ | refine blk_drew ?_ | refine blk_alloc ?_ _)); refine blk_far ?_ NB148_162.out _; refine blk_far ?_ NB148_162.out _; refine blk_far ?_ NB148_162.out _; refine blk_far ?_ NB148_162.out _; refine blk_far ?_ NB148_162.out _; refine blk_far ?_ NB148_162.out _; refine blk_far ?_ NB148_162.out _; refine blk_far ?_ NB148_162.out _; refine blk_far ?_ NB148_162.out _; refine blk_far ?_ NB148_162.out _; refine blk_far ?_ NB148_162.out _; (with_reducible repeat (first | refine blk_drewN ?_ _ | refine blk_drew ?_ | refine blk_alloc ?_ _)); exact BK148.out⟩, ⟨by (with_reducible repeat (first | refine blk_drewN ?_ _ | refine blk_drew ?_ | refine blk_alloc ?_ _)); refine blk_put (cs := #[.string t154, .string t155, .int .i64 t156, .string t157, .string t158, .int .i64 t159, .string t160, .string t161, .string a2, .slice none 0 0, .bool false]) ?_ 10 _ rfl; refine blk_put (cs := #[.string t154, .string t155, .int .i64 t156, .string t157, .string t158, .int .i64 t159, .string t160, .string t161, .string a2, .slice none 0 0, .bool false]) ?_ 9 _ rfl; refine blk_put (cs := #[.string t154, .string t155, .int .i64 t156, .string t157, .string t158, .int .i64 t159, .string t160, .string t161, .string (⟨#[]⟩ : ByteArray), .slice none 0 0, .bool false]) ?_ 8 _ rfl; refine blk_put (cs := #[.string t154, .string t155, .int .i64 t156, .string t157, .string t158, .int .i64 t159, .string t160, .string (⟨#[]⟩ : ByteArray), .string (⟨#[]⟩ : ByteArray), .slice none 0 0, .bool false]) ?_ 7 _ rfl; refine blk_put (cs := #[.string t154, .string t155, .int .i64 t156, .string t157, .string t158, .int .i64 t159, .string (⟨#[]⟩ : ByteArray), .string (⟨#[]⟩ : ByteArray), .string (⟨#[]⟩ : ByteArray), .slice none 0 0, .bool false]) ?_ 6 _ rfl; refine blk_put (cs := #[.string t154, .string t155, .int .i64 t156, .string t157, .string t158, .int .i64 0, .string (⟨#[]⟩ : ByteArray), .string (⟨#[]⟩ : ByteArray), .string (⟨#[]⟩ : ByteArray), .slice none 0 0, .bool false]) ?_ 5 _ rfl; refine blk_put (cs := #[.string t154, .string t155, .int .i64 t156, .string t157, .string (⟨#[]⟩ : ByteArray), .int .i64 0, .string (⟨#[]⟩ : ByteArray), .string (⟨#[]⟩ : ByteArray), .string (⟨#[]⟩ : ByteArray), .slice none 0 0, .bool false]) ?_ 4 _ rfl; refine blk_put (cs := #[.string t154, .string t155, .int .i64 t156, .string (⟨#[]⟩ : ByteArray), .string (⟨#[]⟩ : ByteArray), .int .i64 0, .string (⟨#[]⟩ : ByteArray), .string (⟨#[]⟩ : ByteArray), .string (⟨#[]⟩ : ByteArray), .slice none 0 0, .bool false]) ?_ 3 _ rfl; refine blk_put (cs := #[.string t154, .string t155, .int .i64 0, .string (⟨#[]⟩ : ByteArray), .string (⟨#[]⟩ : ByteArray), .int .i64 0, .string (⟨#[]⟩ : ByteArray), .string (⟨#[]⟩ : ByteArray), .string (⟨#[]⟩ : ByteArray), .slice none 0 0, .bool false]) ?_ 2 _ rfl; refine blk_put (cs := #[.string t154, .string (⟨#[]⟩ : ByteArray), .int .i64 0, .string (⟨#[]⟩ : ByteArray), .string (⟨#[]⟩ : ByteArray), .int .i64 0, .string (⟨#[]⟩ : ByteArray), .string (⟨#[]⟩ : ByteArray), .string (⟨#[]⟩ : ByteArray), .slice none 0 0, .bool false]) ?_ 1 _ rfl; refine blk_put (cs := #[.string (⟨#[]⟩ : ByteArray), .string (⟨#[]⟩ : ByteArray), .int .i64 0, .string (⟨#[]⟩ : ByteArray), .string (⟨#[]⟩ : ByteArray), .int .i64 0, .string (⟨#[]⟩ : ByteArray), .string (⟨#[]⟩ : ByteArray), .string (⟨#[]⟩ : ByteArray), .slice none 0 0, .bool false]) ?_ 0 _ rfl; (with_reducible repeat (first | refine blk_drewN ?_ _ | refine blk_drew ?_ | refine blk_alloc ?_ _)); exact BK162.out⟩, ⟨by repeat (first | (with_reducible first | exact HB.out | apply below_alloc | apply pw_below_drewN | apply below_drew1 | refine below_set ?_ GE148.out | refine below_set ?_ GE162.out) | exact HB.out)⟩⟩
 case rest =>
  clear HC10
  try clear c1
  try clear p2
  try clear c3
  try clear c4
  try clear c5
  try clear c8
  try clear c16
  try clear c18
  try clear hcz17_0
  try clear hcz17_1
  try clear hcz17_10
  try clear hcz17_2
  try clear hcz17_3
  try clear hcz17_4
  try clear hcz17_5
  try clear hcz17_6
  try clear hcz17_7
  try clear hcz17_8
  try clear hcz17_9
  try clear hfz17_0
  try clear hfz17_1
  try clear hfz17_10
  try clear hfz17_2
  try clear hfz17_3
  try clear hfz17_4
  try clear hfz17_5
  try clear hfz17_6
  try clear hfz17_7
  try clear hfz17_8
  try clear hfz17_9
  obtain ⟨kq, x31_9, rfl, HA, HJ9, BK148, BK162, HB⟩ := hcut
  cases kq with
  | zero => exact absurd HA.out (by simp [r17_Make.j0])
  | succ kj9 =>
   have H := HA.out
   clear HA
   simp only [r17_Make.j0] at H
   have HC19 := Aside0.mk H
   clear H
   go_upto_if 31 with (fail)
   go_cut [] (fun wc => ∃ (kq : Nat) (x163008_18 : ByteArray), Aside0 (r17_Make.j1 kq l3 t154 t155 t156 t157 t158 t159 t160 t161 x163008_18 a4 = some (r1, r2, r3, r4, r5, r6, r7, r8, r9, r10, r11)) ∧ Aside0 (kq ≤ kj9) ∧ Aside0 (wc.heap[gb148]? = some (.cells #[.string (⟨#[]⟩ : ByteArray), .string (⟨#[]⟩ : ByteArray), .int .i64 0, .string (⟨#[]⟩ : ByteArray), .string (⟨#[]⟩ : ByteArray), .int .i64 0, .string (⟨#[]⟩ : ByteArray), .string (⟨#[]⟩ : ByteArray), .string (⟨#[]⟩ : ByteArray), (.slice none 0 0), .bool false] 48 (0, 0))) ∧ Aside0 (wc.heap[gb162]? = some (.cells #[.string t154, .string t155, .int .i64 t156, .string t157, .string t158, .int .i64 t159, .string t160, .string t161, .string x163008_18, (.slice none 0 0), .bool a4] 48 (0, 0))) ∧ Aside0 (Below w.heap.size w wc))
   case first =>
    have H := HC19.out
    clear HC19
    by_cases c20 : x31_9 = true
    ·subst c20
     have H1 : (r17_Make.j1 kj9 l3 t154 t155 t156 t157 t158 t159 t160 t161 (⟨#[80, 85, 84]⟩ : ByteArray) a4) = some (r1, r2, r3, r4, r5, r6, r7, r8, r9, r10, r11) := by rw [if_pos rfl] at H; exact H
     clear H
     have H := H1
     clear H1
     have H' := Aside0.mk H
     clear H
     have hnb21 := NB162_148.out
     have hnc21 := NB148_162.out
     have hcz22_0 : wc.cell? ⟨gb162, 0, none⟩ = some (.string t154) := (blk_cell BK162.out 0).trans rfl
     have hcz22_1 : wc.cell? ⟨gb162, 1, none⟩ = some (.string t155) := (blk_cell BK162.out 1).trans rfl
     have hcz22_2 : wc.cell? ⟨gb162, 2, none⟩ = some (.int .i64 t156) := (blk_cell BK162.out 2).trans rfl
     have hcz22_3 : wc.cell? ⟨gb162, 3, none⟩ = some (.string t157) := (blk_cell BK162.out 3).trans rfl
     have hcz22_4 : wc.cell? ⟨gb162, 4, none⟩ = some (.string t158) := (blk_cell BK162.out 4).trans rfl
     have hcz22_5 : wc.cell? ⟨gb162, 5, none⟩ = some (.int .i64 t159) := (blk_cell BK162.out 5).trans rfl
     have hcz22_6 : wc.cell? ⟨gb162, 6, none⟩ = some (.string t160) := (blk_cell BK162.out 6).trans rfl
     have hcz22_7 : wc.cell? ⟨gb162, 7, none⟩ = some (.string t161) := (blk_cell BK162.out 7).trans rfl
     have hcz22_8 : wc.cell? ⟨gb162, 8, none⟩ = some (.string a2) := (blk_cell BK162.out 8).trans rfl
     have hcz22_9 : wc.cell? ⟨gb162, 9, none⟩ = some (.slice none 0 0) := (blk_cell BK162.out 9).trans rfl
     have hcz22_10 : wc.cell? ⟨gb162, 10, none⟩ = some (.bool a4) := (blk_cell BK162.out 10).trans rfl
     have hq4 := fun j => blk_frozen BK162.out j
     go_wp2
     go_meet
     case rel => exact ⟨_, ((⟨#[80, 85, 84]⟩ : ByteArray)), H', ⟨by have := HJ9.out; first | omega | exact Nat.le_refl _⟩, ⟨by (with_reducible repeat (first | refine blk_drewN ?_ _ | refine blk_drew ?_ | refine blk_alloc ?_ _)); refine blk_far ?_ NB148_162.out _; (with_reducible repeat (first | refine blk_drewN ?_ _ | refine blk_drew ?_ | refine blk_alloc ?_ _)); exact BK148.out⟩, ⟨by (with_reducible repeat (first | refine blk_drewN ?_ _ | refine blk_drew ?_ | refine blk_alloc ?_ _)); refine blk_put (cs := #[.string t154, .string t155, .int .i64 t156, .string t157, .string t158, .int .i64 t159, .string t160, .string t161, .string a2, .slice none 0 0, .bool a4]) ?_ 8 _ rfl; (with_reducible repeat (first | refine blk_drewN ?_ _ | refine blk_drew ?_ | refine blk_alloc ?_ _)); exact BK162.out⟩, ⟨by repeat (first | (with_reducible first | exact HB.out | apply below_alloc | apply pw_below_drewN | apply below_drew1 | refine below_set ?_ GE148.out | refine below_set ?_ GE162.out) | exact HB.out)⟩⟩
    replace c20 := Bool.eq_false_iff.mpr c20
    subst c20
    have H1 : (r17_Make.j1 kj9 l3 t154 t155 t156 t157 t158 t159 t160 t161 a2 a4) = some (r1, r2, r3, r4, r5, r6, r7, r8, r9, r10, r11) := by rw [if_neg (show ¬ (false = true) by decide)] at H; exact H
    clear H
    have H := H1
    clear H1
    have H' := Aside0.mk H
    clear H
    go_wp2
    go_meet
    case rel => exact ⟨_, (a2), H', ⟨by have := HJ9.out; first | omega | exact Nat.le_refl _⟩, ⟨by (with_reducible repeat (first | refine blk_drewN ?_ _ | refine blk_drew ?_ | refine blk_alloc ?_ _)); exact BK148.out⟩, ⟨by (with_reducible repeat (first | refine blk_drewN ?_ _ | refine blk_drew ?_ | refine blk_alloc ?_ _)); exact BK162.out⟩, ⟨by repeat (first | (with_reducible first | exact HB.out | apply below_alloc | apply pw_below_drewN | apply below_drew1 | refine below_set ?_ GE148.out | refine below_set ?_ GE162.out) | exact HB.out)⟩⟩
   case rest =>
    clear HC19
    try clear c1
    try clear c2
    try clear p2
    try clear c3
    try clear c4
    try clear c5
    try clear c8
    try clear c16
    try clear c18
    try clear c20
    try clear c21
    try clear hcz17_0
    try clear hcz17_1
    try clear hcz17_10
    try clear hcz17_2
    try clear hcz17_3
    try clear hcz17_4
    try clear hcz17_5
    try clear hcz17_6
    try clear hcz17_7
    try clear hcz17_8
    try clear hcz17_9
    try clear hcz22_0
    try clear hcz22_1
    try clear hcz22_10
    try clear hcz22_2
    try clear hcz22_3
    try clear hcz22_4
    try clear hcz22_5
    try clear hcz22_6
    try clear hcz22_7
    try clear hcz22_8
    try clear hcz22_9
    try clear hfz17_0
    try clear hfz17_1
    try clear hfz17_10
    try clear hfz17_2
    try clear hfz17_3
    try clear hfz17_4
    try clear hfz17_5
    try clear hfz17_6
    try clear hfz17_7
    try clear hfz17_8
    try clear hfz17_9
    try clear hfz22_0
    try clear hfz22_1
    try clear hfz22_10
    try clear hfz22_2
    try clear hfz22_3
    try clear hfz22_4
    try clear hfz22_5
    try clear hfz22_6
    try clear hfz22_7
    try clear hfz22_8
    try clear hfz22_9
    try clear p2
    obtain ⟨kq, x163008_18, HA, HJ18, BK148, BK162, HB⟩ := hcut
    cases kq with
    | zero => exact absurd HA.out (by simp [r17_Make.j1])
    | succ kj18 =>
     have H := HA.out
     clear HA
     simp only [r17_Make.j1] at H
     have H' := Aside0.mk H
     clear H
     go_wp2
     go_loopg [13] kj18 (fun kq v13 w' => ∃ (x13_3 : Int) (x163009_3 : List ByteArray) (u163009 : Value), v13 = .int .i64 x13_3 ∧ Aside0 (r17_Make.l0 kq l3 x13_3 t154 t155 t156 t157 t158 t159 t160 t161 x163008_18 x163009_3 a4 = some (r1, r2, r3, r4, r5, r6, r7, r8, r9, r10, r11)) ∧ Aside0 (kq ≤ kj18) ∧ Aside0 (Kd.R Kd.string 9 w' w.heap.size (fun _ => True) u163009 x163009_3) ∧ Aside0 (w'.heap[gb148]? = some (.cells #[.string (⟨#[]⟩ : ByteArray), .string (⟨#[]⟩ : ByteArray), .int .i64 0, .string (⟨#[]⟩ : ByteArray), .string (⟨#[]⟩ : ByteArray), .int .i64 0, .string (⟨#[]⟩ : ByteArray), .string (⟨#[]⟩ : ByteArray), .string (⟨#[]⟩ : ByteArray), (.slice none 0 0), .bool false] 48 (0, 0))) ∧ Aside0 (w'.heap[gb162]? = some (.cells #[.string t154, .string t155, .int .i64 t156, .string t157, .string t158, .int .i64 t159, .string t160, .string t161, .string x163008_18, u163009, .bool a4] 48 (0, 0))) ∧ Aside0 (Below w.heap.size w w'))
     case atStart => exact ⟨(0), (([] : List ByteArray)), (.slice none 0 0), (by first | rfl | (simp [bne, *]; done) | (simp; done)), H', ⟨Nat.le_refl _⟩, ⟨by first | exact Kd.R_nil _ _ _ _ _ | exact Kd.N_nil _ _ _ _ _ | exact Kd.V_nil _ _ _ _ _ | exact Kd.Q_nil _ _ _ _ _ | exact Kd.S_nil _ _ _ _ _⟩, ⟨by (with_reducible repeat (first | refine blk_drewN ?_ _ | refine blk_drew ?_ | refine blk_alloc ?_ _)); exact BK148.out⟩, ⟨by (with_reducible repeat (first | refine blk_drewN ?_ _ | refine blk_drew ?_ | refine blk_alloc ?_ _)); exact BK162.out⟩, ⟨by repeat (first | (with_reducible first | exact HB.out | apply below_alloc | apply pw_below_drewN | apply below_drew1 | refine below_set ?_ GE148.out | refine below_set ?_ GE162.out) | exact HB.out)⟩⟩
     case round =>
      clear H'
      try clear c1
      try clear c2
      try clear p2
      try clear c3
      try clear c4
      try clear c5
      try clear c8
      try clear c16
      try clear c18
      try clear c20
      try clear c21
      try clear hcz17_0
      try clear hcz17_1
      try clear hcz17_10
      try clear hcz17_2
      try clear hcz17_3
      try clear hcz17_4
      try clear hcz17_5
      try clear hcz17_6
      try clear hcz17_7
      try clear hcz17_8
      try clear hcz17_9
      try clear hcz22_0
      try clear hcz22_1
      try clear hcz22_10
      try clear hcz22_2
      try clear hcz22_3
      try clear hcz22_4
      try clear hcz22_5
      try clear hcz22_6
      try clear hcz22_7
      try clear hcz22_8
      try clear hcz22_9
      try clear hfz17_0
      try clear hfz17_1
      try clear hfz17_10
      try clear hfz17_2
      try clear hfz17_3
      try clear hfz17_4
      try clear hfz17_5
      try clear hfz17_6
      try clear hfz17_7
      try clear hfz17_8
      try clear hfz17_9
      try clear hfz22_0
      try clear hfz22_1
      try clear hfz22_10
      try clear hfz22_2
      try clear hfz22_3
      try clear hfz22_4
      try clear hfz22_5
      try clear hfz22_6
      try clear hfz22_7
      try clear hfz22_8
      try clear hfz22_9
      try clear p2
      obtain ⟨x13_3, x163009_3, u163009, rfl, HA, HK3, HO_163009, BK148, BK162, HB⟩ := hrel
      cases gk with
      | zero => exact absurd HA.out (by simp [r17_Make.l0])
      | succ k3 =>
       have H := HA.out
       clear HA
       simp only [r17_Make.l0] at H
       have HC23 := Aside0.mk H
       clear H
       go_upto_region 6 with (fail)
       go_cut [42] (fun v42 wc => ∃ (kq : Nat) (x42_22 : Bool), v42 = .bool x42_22 ∧ Aside0 (r17_Make.j3 kq l3 x13_3 x42_22 t154 t155 t156 t157 t158 t159 t160 t161 x163008_18 x163009_3 a4 = some (r1, r2, r3, r4, r5, r6, r7, r8, r9, r10, r11)) ∧ Aside0 (kq ≤ k3) ∧ Aside0 (Kd.R Kd.string 9 wc w.heap.size (fun _ => True) u163009 x163009_3) ∧ Aside0 (wc.heap[gb148]? = some (.cells #[.string (⟨#[]⟩ : ByteArray), .string (⟨#[]⟩ : ByteArray), .int .i64 0, .string (⟨#[]⟩ : ByteArray), .string (⟨#[]⟩ : ByteArray), .int .i64 0, .string (⟨#[]⟩ : ByteArray), .string (⟨#[]⟩ : ByteArray), .string (⟨#[]⟩ : ByteArray), (.slice none 0 0), .bool false] 48 (0, 0))) ∧ Aside0 (wc.heap[gb162]? = some (.cells #[.string t154, .string t155, .int .i64 t156, .string t157, .string t158, .int .i64 t159, .string t160, .string t161, .string x163008_18, u163009, .bool a4] 48 (0, 0))) ∧ Aside0 (Below w.heap.size w wc))
       case first =>
        have H := HC23.out
        clear HC23
        by_cases c24 : x13_3 < (l3.length : Int)
        ·rw [if_pos c24] at H
         have c24b0 : decide (x13_3 < (l3.length : Int)) = true := decide_eq_true c24
         clear c24
         (first | rw [c24b0] | rw [c24b1] | (simp only [i64_w, i32_w]; rw [c24b0]) | skip)
         have H' := Aside0.mk H
         clear H
         have hnb25 := NB162_148.out
         have hnc25 := NB148_162.out
         have hcz26_0 : wr.cell? ⟨gb162, 0, none⟩ = some (.string t154) := (blk_cell BK162.out 0).trans rfl
         have hcz26_1 : wr.cell? ⟨gb162, 1, none⟩ = some (.string t155) := (blk_cell BK162.out 1).trans rfl
         have hcz26_2 : wr.cell? ⟨gb162, 2, none⟩ = some (.int .i64 t156) := (blk_cell BK162.out 2).trans rfl
         have hcz26_3 : wr.cell? ⟨gb162, 3, none⟩ = some (.string t157) := (blk_cell BK162.out 3).trans rfl
         have hcz26_4 : wr.cell? ⟨gb162, 4, none⟩ = some (.string t158) := (blk_cell BK162.out 4).trans rfl
         have hcz26_5 : wr.cell? ⟨gb162, 5, none⟩ = some (.int .i64 t159) := (blk_cell BK162.out 5).trans rfl
         have hcz26_6 : wr.cell? ⟨gb162, 6, none⟩ = some (.string t160) := (blk_cell BK162.out 6).trans rfl
         have hcz26_7 : wr.cell? ⟨gb162, 7, none⟩ = some (.string t161) := (blk_cell BK162.out 7).trans rfl
         have hcz26_8 : wr.cell? ⟨gb162, 8, none⟩ = some (.string x163008_18) := (blk_cell BK162.out 8).trans rfl
         have hcz26_9 : wr.cell? ⟨gb162, 9, none⟩ = some (u163009) := (blk_cell BK162.out 9).trans rfl
         have hcz26_10 : wr.cell? ⟨gb162, 10, none⟩ = some (.bool a4) := (blk_cell BK162.out 10).trans rfl
         have hq5 := fun j => blk_frozen BK162.out j
         obtain ⟨Ao27, co27, eo27⟩ := Kd.R_slice HO_163009.out
         subst eo27
         go_wp2
         go_meet
         case rel => exact ⟨_, (decide ((x163009_3.length : Int) < 4)), (by first | rfl | (simp [bne, *]; done) | (simp; done)), H', ⟨by have := HJ9.out; have := HJ18.out; have := HK3.out; first | omega | exact Nat.le_refl _⟩, ⟨by (with_reducible repeat (first | apply Kd.R_alloc | apply Kd.R_drewN | apply Kd.R_drew)); exact HO_163009.out⟩, ⟨by (with_reducible repeat (first | refine blk_drewN ?_ _ | refine blk_drew ?_ | refine blk_alloc ?_ _)); exact BK148.out⟩, ⟨by (with_reducible repeat (first | refine blk_drewN ?_ _ | refine blk_drew ?_ | refine blk_alloc ?_ _)); exact BK162.out⟩, ⟨by repeat (first | (with_reducible first | exact HB.out | apply below_alloc | apply pw_below_drewN | apply below_drew1 | refine below_set ?_ GE148.out | refine below_set ?_ GE162.out) | exact HB.out)⟩⟩
        rw [if_neg c24] at H
        have c24b0 : decide (x13_3 < (l3.length : Int)) = false := decide_eq_false c24
        clear c24
        (first | rw [c24b0] | rw [c24b1] | (simp only [i64_w, i32_w]; rw [c24b0]) | skip)
        have H' := Aside0.mk H
        clear H
        go_wp2
        go_meet
        case rel => exact ⟨_, (false), (by first | rfl | (simp [bne, *]; done) | (simp; done)), H', ⟨by have := HJ9.out; have := HJ18.out; have := HK3.out; first | omega | exact Nat.le_refl _⟩, ⟨by (with_reducible repeat (first | apply Kd.R_alloc | apply Kd.R_drewN | apply Kd.R_drew)); exact HO_163009.out⟩, ⟨by (with_reducible repeat (first | refine blk_drewN ?_ _ | refine blk_drew ?_ | refine blk_alloc ?_ _)); exact BK148.out⟩, ⟨by (with_reducible repeat (first | refine blk_drewN ?_ _ | refine blk_drew ?_ | refine blk_alloc ?_ _)); exact BK162.out⟩, ⟨by repeat (first | (with_reducible first | exact HB.out | apply below_alloc | apply pw_below_drewN | apply below_drew1 | refine below_set ?_ GE148.out | refine below_set ?_ GE162.out) | exact HB.out)⟩⟩
       case rest =>
        clear HC23
        try clear c1
        try clear c2
        try clear p2
        try clear c3
        try clear c4
        try clear c5
        try clear c8
        try clear c16
        try clear c18
        try clear c20
        try clear c21
        try clear c24
        try clear c24b0
        try clear c25
        try clear hcz17_0
        try clear hcz17_1
        try clear hcz17_10
        try clear hcz17_2
        try clear hcz17_3
        try clear hcz17_4
        try clear hcz17_5
        try clear hcz17_6
        try clear hcz17_7
        try clear hcz17_8
        try clear hcz17_9
        try clear hcz22_0
        try clear hcz22_1
        try clear hcz22_10
        try clear hcz22_2
        try clear hcz22_3
        try clear hcz22_4
        try clear hcz22_5
        try clear hcz22_6
        try clear hcz22_7
        try clear hcz22_8
        try clear hcz22_9
        try clear hcz26_0
        try clear hcz26_1
        try clear hcz26_10
        try clear hcz26_2
        try clear hcz26_3
        try clear hcz26_4
        try clear hcz26_5
        try clear hcz26_6
        try clear hcz26_7
        try clear hcz26_8
        try clear hcz26_9
        try clear hfz17_0
        try clear hfz17_1
        try clear hfz17_10
        try clear hfz17_2
        try clear hfz17_3
        try clear hfz17_4
        try clear hfz17_5
        try clear hfz17_6
        try clear hfz17_7
        try clear hfz17_8
        try clear hfz17_9
        try clear hfz22_0
        try clear hfz22_1
        try clear hfz22_10
        try clear hfz22_2
        try clear hfz22_3
        try clear hfz22_4
        try clear hfz22_5
        try clear hfz22_6
        try clear hfz22_7
        try clear hfz22_8
        try clear hfz22_9
        try clear hfz26_0
        try clear hfz26_1
        try clear hfz26_10
        try clear hfz26_2
        try clear hfz26_3
        try clear hfz26_4
        try clear hfz26_5
        try clear hfz26_6
        try clear hfz26_7
        try clear hfz26_8
        try clear hfz26_9
        try clear p2
        obtain ⟨kq, x42_22, rfl, HA, HJ22, HO_163009, BK148, BK162, HB⟩ := hcut
        cases kq with
        | zero => exact absurd HA.out (by simp [r17_Make.j3])
        | succ kj22 =>
         have H := HA.out
         clear HA
         simp only [r17_Make.j3] at H
         by_cases c28 : x42_22 = true
         ·subst c28
          have H1 : (if 0 ≤ x13_3 then (if x13_3 < (l3.length : Int) then ((r01_Token.f kj22 (rdOf ByteArray.empty l3 x13_3)).bind fun t165 => (if t165 = true then (if ((rdOf ByteArray.empty l3 x13_3).size : Int) ≤ 20 then (if x163009_3.length < 8796093022208 then (r17_Make.l0 kj22 l3 (wrap64 (x13_3 + 1)) t154 t155 t156 t157 t158 t159 t160 t161 x163008_18 (x163009_3 ++ [rdOf ByteArray.empty l3 x13_3]) a4) else (none)) else (r17_Make.l0 kj22 l3 (wrap64 (x13_3 + 1)) t154 t155 t156 t157 t158 t159 t160 t161 x163008_18 x163009_3 a4)) else (r17_Make.l0 kj22 l3 (wrap64 (x13_3 + 1)) t154 t155 t156 t157 t158 t159 t160 t161 x163008_18 x163009_3 a4))) else (none)) else (none)) = some (r1, r2, r3, r4, r5, r6, r7, r8, r9, r10, r11) := by rw [if_pos rfl] at H; exact H
          clear H
          have H := H1
          clear H1
          by_cases c29 : 0 ≤ x13_3
          ·rw [if_pos c29] at H
           have c29b0 : decide (0 ≤ x13_3) = true := decide_eq_true c29
           clear c29
           by_cases c30 : x13_3 < (l3.length : Int)
           ·rw [if_pos c30] at H
            have c30b0 : decide (x13_3 < (l3.length : Int)) = true := decide_eq_true c30
            clear c30
            replace H := Option.bind_eq_some_iff.mp H
            obtain ⟨t165, A310, H⟩ := H
            try dsimp only at H
            have A31 := Aside0.mk A310
            clear A310
            by_cases c32 : t165 = true
            ·subst c32
             have H1 : (if ((rdOf ByteArray.empty l3 x13_3).size : Int) ≤ 20 then (if x163009_3.length < 8796093022208 then (r17_Make.l0 kj22 l3 (wrap64 (x13_3 + 1)) t154 t155 t156 t157 t158 t159 t160 t161 x163008_18 (x163009_3 ++ [rdOf ByteArray.empty l3 x13_3]) a4) else (none)) else (r17_Make.l0 kj22 l3 (wrap64 (x13_3 + 1)) t154 t155 t156 t157 t158 t159 t160 t161 x163008_18 x163009_3 a4)) = some (r1, r2, r3, r4, r5, r6, r7, r8, r9, r10, r11) := by rw [if_pos rfl] at H; exact H
             clear H
             have H := H1
             clear H1
             by_cases c33 : ((rdOf ByteArray.empty l3 x13_3).size : Int) ≤ 20
             ·rw [if_pos c33] at H
              have c33b0 : decide (((rdOf ByteArray.empty l3 x13_3).size : Int) ≤ 20) = true := decide_eq_true c33
              have c33b1 : decide ((rdOf ByteArray.empty l3 x13_3).size ≤ 20) = true := decide_eq_true (by omega)
              clear c33
              by_cases c34 : x163009_3.length < 8796093022208
              ·rw [if_pos c34] at H
               have LMc34 := Aside0.mk c34
               clear c34
               obtain ⟨y168, hy168⟩ : ∃ y_ : List ByteArray, y_ = (x163009_3 ++ [rdOf ByteArray.empty l3 x13_3]) := ⟨_, rfl⟩
               replace H : (r17_Make.l0 kj22 l3 (wrap64 (x13_3 + 1)) t154 t155 t156 t157 t158 t159 t160 t161 x163008_18 y168 a4) = some (r1, r2, r3, r4, r5, r6, r7, r8, r9, r10, r11) := by first | (rw [hy168]; with_reducible exact H) | (have H2_ := (Option.bind_some _ _).symm.trans H; rw [hy168]; with_reducible exact H2_) | (have H2_ := (Option.bind_some _ _).symm.trans H; with_reducible exact H2_) | with_reducible exact H | (rw [hy168]; exact H) | exact H
               have Ny168 := Aside0.mk hy168
               clear hy168
               have H' := Aside0.mk H
               clear H
               have p164 : 0 ≤ (x13_3 : Int) := of_decide_eq_true (by first | (with_reducible assumption) | assumption)
               have q164 : x13_3 < (l3.length : Int) := of_decide_eq_true (by first | (with_reducible assumption) | assumption)
               obtain ⟨ad164, e164, hx164_0⟩ := Kd.at_string HR3.out x13_3 p164 q164
               cases e164
               replace hx164_0 := (HB.out.cell (World.block_lt_of_cell? w _ hx164_0)).trans hx164_0
               replace p164 := eq_true p164
               replace q164 := eq_true q164
               try go_wp2_with (first | ((with_reducible refine gate_callee (f := 53) rfl ?_); refine goesL_ (some 49) rfl rfl Tryd.func53 (by kernel_rfl) rfl #[.string (rdOf ByteArray.empty l3 x13_3)] rfl (by (try simp only [List.map_toArray, List.map_cons, List.map_nil]); first | done | rfl) ?_; (with_reducible refine (r01_Token.calls kj22 (rdOf ByteArray.empty l3 x13_3) true _ A31.out).mono ?_); rintro e w' ⟨rfl, ⟨nd, rfl⟩⟩; refine ⟨_, rfl, ?_⟩; (try (rw [drewN_self wc]; generalize hq_ : World.drewN wc _ = wc; have n0_ : Aside0 (Kd.R Kd.string 9 wc w.heap.size (fun _ => True) u163009 x163009_3) := ⟨by rw [← hq_]; exact (R_later HO_163009.out)⟩; have n1_ : Aside0 (wc.heap[gb148]? = some (.cells #[.string (⟨#[]⟩ : ByteArray), .string (⟨#[]⟩ : ByteArray), .int .i64 0, .string (⟨#[]⟩ : ByteArray), .string (⟨#[]⟩ : ByteArray), .int .i64 0, .string (⟨#[]⟩ : ByteArray), .string (⟨#[]⟩ : ByteArray), .string (⟨#[]⟩ : ByteArray), .slice none 0 0, .bool false] 48 (0, 0))) := ⟨by rw [← hq_]; exact (blk_later BK148.out)⟩; have n2_ : Aside0 (wc.heap[gb162]? = some (.cells #[.string t154, .string t155, .int .i64 t156, .string t157, .string t158, .int .i64 t159, .string t160, .string t161, .string x163008_18, u163009, .bool a4] 48 (0, 0))) := ⟨by rw [← hq_]; exact (blk_later BK162.out)⟩; have n3_ : Aside0 (Below w.heap.size w wc) := ⟨by rw [← hq_]; exact (by repeat (first | (with_reducible first | exact HB.out | apply below_alloc | apply pw_below_drewN | apply below_drew1 | refine below_set ?_ GE148.out | refine below_set ?_ GE162.out) | exact HB.out))⟩; clear HO_163009 BK148 BK162 HB hq_; have HO_163009 := n0_; have BK148 := n1_; have BK162 := n2_; have HB := n3_; clear n0_ n1_ n2_ n3_)); have p166 : 0 ≤ (x13_3 : Int) := of_decide_eq_true (by first | (with_reducible assumption) | assumption); have q166 : x13_3 < (l3.length : Int) := of_decide_eq_true (by first | (with_reducible assumption) | assumption); obtain ⟨ad166, e166, hx166_0⟩ := Kd.at_string HR3.out x13_3 p166 q166; obtain rfl : ad164 = ad166 := (by injection e166); replace hx166_0 := (HB.out.cell (World.block_lt_of_cell? w _ hx166_0)).trans hx166_0; replace p166 := eq_true p166; replace q166 := eq_true q166))
               replace HO_163009 := Aside0.mk (Kd.R_drew HO_163009.out)
               replace BK148 := Aside0.mk (blk_drew BK148.out)
               replace BK162 := Aside0.mk (blk_drew BK162.out)
               replace HB := Aside0.mk (below_drew1 HB.out)
               have p167 : 0 ≤ (x13_3 : Int) := of_decide_eq_true (by first | (with_reducible assumption) | assumption)
               have q167 : x13_3 < (l3.length : Int) := of_decide_eq_true (by first | (with_reducible assumption) | assumption)
               obtain ⟨ad167, e167, hx167_0⟩ := Kd.at_string HR3.out x13_3 p167 q167
               have hw167_0 := hx167_0
               obtain rfl : ad164 = ad167 := (by injection e167)
               replace hx167_0 := (HB.out.cell (World.block_lt_of_cell? w _ hx167_0)).trans hx167_0
               replace p167 := eq_true p167
               replace q167 := eq_true q167
               refine start_ (n := 10) (S := fun w' => w'.cell? ⟨gb162, 0, none⟩ = some (.string t154) ∧ w'.cell? ⟨gb162, 1, none⟩ = some (.string t155) ∧ w'.cell? ⟨gb162, 2, none⟩ = some (.int .i64 t156) ∧ w'.cell? ⟨gb162, 3, none⟩ = some (.string t157) ∧ w'.cell? ⟨gb162, 4, none⟩ = some (.string t158) ∧ w'.cell? ⟨gb162, 5, none⟩ = some (.int .i64 t159) ∧ w'.cell? ⟨gb162, 6, none⟩ = some (.string t160) ∧ w'.cell? ⟨gb162, 7, none⟩ = some (.string t161) ∧ w'.cell? ⟨gb162, 8, none⟩ = some (.string x163008_18) ∧ w'.cell? ⟨gb162, 9, none⟩ = some (u163009) ∧ w'.cell? ⟨gb162, 10, none⟩ = some (.bool a4) ∧ w'.cell? (ad164.add (x13_3).toNat) = some (.string (rdOf ByteArray.empty l3 x13_3))) (ds := [9]) #[false, false, false, false, false, false, false, false, false, false] (by kernel_rfl) rfl rfl ⟨(blk_cell BK162.out 0).trans rfl, (blk_cell BK162.out 1).trans rfl, (blk_cell BK162.out 2).trans rfl, (blk_cell BK162.out 3).trans rfl, (blk_cell BK162.out 4).trans rfl, (blk_cell BK162.out 5).trans rfl, (blk_cell BK162.out 6).trans rfl, (blk_cell BK162.out 7).trans rfl, (blk_cell BK162.out 8).trans rfl, (blk_cell BK162.out 9).trans rfl, (blk_cell BK162.out 10).trans rfl, ((HB.out.cell (World.block_lt_of_cell? w _ hw167_0)).trans hw167_0)⟩ (fun hHeld => ?_); refine with_tabW r17_Make.tab10 r17_Make.bits10 (fun HT_ HW_ => ?_)
               generalize wc.drew = w35 at HO_163009 BK148 BK162 HB hx167_0 hHeld ⊢
               refine pure_ (i := 0) (N := some 59) (v := ?_) (a' := ?_) #[true, false, false, false, false, false, false, false, false, false] rfl rfl (any_of HT_.out (by kernel_rfl)) (fun _ _ _ h => h) (Or.inl ⟨by rfl, ?_⟩) ?_ ?_
               rotate_left
               ·intro w'
                go_simp
                with_reducible rfl
               rotate_left
               ·simp only [Act.put, List.setIfInBounds_toArray, List.set_cons_zero, List.set_cons_succ, i64_w, i32_w]
                rfl
               refine pure_ (i := 2) (N := some 61) (v := ?_) (a' := ?_) #[true, false, true, false, false, false, false, false, false, false] rfl rfl (any_of HT_.out (by kernel_rfl)) (fun _ _ _ h => h) (Or.inl ⟨by rfl, ?_⟩) ?_ ?_
               rotate_left
               ·intro w'
                go_simp
                with_reducible rfl
               rotate_left
               ·simp only [Act.put, List.setIfInBounds_toArray, List.set_cons_zero, List.set_cons_succ, i64_w, i32_w]
                rfl
               refine pure_ (i := 3) (N := some 62) (v := ?_) (a' := ?_) #[true, false, true, true, false, false, false, false, false, false] rfl rfl (any_of HT_.out (by kernel_rfl)) (fun _ _ _ h => h) (Or.inl ⟨by rfl, ?_⟩) ?_ ?_
               rotate_left
               ·intro w'
                go_simp
                with_reducible rfl
               rotate_left
               ·simp only [Act.put, List.setIfInBounds_toArray, List.set_cons_zero, List.set_cons_succ, i64_w, i32_w]
                rfl
               refine pure_ (i := 4) (N := some 63) (v := ?_) (a' := ?_) #[true, false, true, true, true, false, false, false, false, false] rfl rfl (any_of HT_.out (by kernel_rfl)) (fun _ _ _ h => h) (Or.inl ⟨by rfl, ?_⟩) ?_ ?_
               rotate_left
               ·intro w'
                go_simp
                with_reducible rfl
               rotate_left
               ·simp only [Act.put, List.setIfInBounds_toArray, List.set_cons_zero, List.set_cons_succ, i64_w, i32_w]
                rfl
               refine take_ (i := 1) (N := some 60) (v := ?_) (a' := ?_) #[true, true, true, true, true, false, false, false, false, false] rfl rfl (take_ofW HT_.out HW_.out (by kernel_rfl)) (fun _ _ _ h => h) (Or.inl ⟨by rfl, ?_⟩) hHeld ?_ ?_
               rotate_left
               ·rintro w' ⟨s0, s1, s2, s3, s4, s5, s6, s7, s8, s9, s10, s11⟩
                go_simp
                with_reducible rfl
               rotate_left
               ·simp only [Act.put, List.setIfInBounds_toArray, List.set_cons_zero, List.set_cons_succ, i64_w, i32_w]
                rfl
               refine take_ (i := 5) (N := some 64) (v := ?_) (a' := ?_) #[true, true, true, true, true, true, false, false, false, false] rfl rfl (take_ofW HT_.out HW_.out (by kernel_rfl)) (fun _ _ _ h => h) (Or.inl ⟨by rfl, ?_⟩) hHeld ?_ ?_
               rotate_left
               ·rintro w' ⟨s0, s1, s2, s3, s4, s5, s6, s7, s8, s9, s10, s11⟩
                go_simp
                with_reducible rfl
               rotate_left
               ·simp only [Act.put, List.setIfInBounds_toArray, List.set_cons_zero, List.set_cons_succ, i64_w, i32_w]
                rfl
               refine one_ (i := 6) (N := some 65) #[true, true, true, true, true, true, true, false, false, false] rfl rfl (one_of HT_.out (by kernel_rfl)) (by decide) (fun K hK => ?_)
               refine value_ (w1 := ?_) (v := ?_) (by rfl) rfl ?_ ?_
               rotate_left 2
               ·go_simp
                constructor
                ·rfl
                rfl
               refine hK.out _ _ ⟨(blk_cell (blk_alloc BK162.out _) 0).trans rfl, (blk_cell (blk_alloc BK162.out _) 1).trans rfl, (blk_cell (blk_alloc BK162.out _) 2).trans rfl, (blk_cell (blk_alloc BK162.out _) 3).trans rfl, (blk_cell (blk_alloc BK162.out _) 4).trans rfl, (blk_cell (blk_alloc BK162.out _) 5).trans rfl, (blk_cell (blk_alloc BK162.out _) 6).trans rfl, (blk_cell (blk_alloc BK162.out _) 7).trans rfl, (blk_cell (blk_alloc BK162.out _) 8).trans rfl, (blk_cell (blk_alloc BK162.out _) 9).trans rfl, (blk_cell (blk_alloc BK162.out _) 10).trans rfl, (World.cell?_alloc_lt _ _ _ (World.block_lt_of_cell? _ _ (((HB.out.cell (World.block_lt_of_cell? w _ hw167_0)).trans hw167_0)))).trans (((HB.out.cell (World.block_lt_of_cell? w _ hw167_0)).trans hw167_0))⟩ (fun hHeld => ?_)
               clear hK K
               refine norm_ (a' := ?_) ?_ ?_
               rotate_left
               ·show Act.put _ (some 65) _ = _
                simp only [Act.put, List.setIfInBounds_toArray, List.set_cons_zero, List.set_cons_succ, i64_w, i32_w]
                rfl
               refine one_ (i := 7) (N := some 66) #[true, true, true, true, true, true, true, true, false, false] rfl rfl (one_of HT_.out (by kernel_rfl)) (by decide) (fun K hK => ?_)
               refine Kd.R_append_step Kd.string (w0 := w) w.heap.size (by rfl) (.tmp 60) (.tmp 65) 37 9 (.string ⟨#[]⟩) 16 rfl Tryd.underlying37 info9 rfl (by decide) (by omega) u163009 x163009_3 (rdOf ByteArray.empty l3 x13_3) [.string (rdOf ByteArray.empty l3 x13_3)] (fun _ => True) (fun _ => False) rfl rfl ?aP (fun _ hk => hk.elim) ?aF ?aO ?aB ?aS ?aL ?_
               (case aP => exact rfl)
               (case aB => exact (by repeat (first | (with_reducible first | exact HB.out | apply below_alloc | apply pw_below_drewN | apply below_drew1 | refine below_set ?_ GE148.out | refine below_set ?_ GE162.out) | exact HB.out)))
               (case aF => exact (fun _ _ => trivial))
               (case aO => exact (R_later HO_163009.out))
               (case aS => exact (below_size (by repeat (first | (with_reducible first | exact HB.out | apply below_alloc | apply pw_below_drewN | apply below_drew1 | refine below_set ?_ GE148.out | refine below_set ?_ GE162.out) | exact HB.out))))
               (case aL => have := LMc34.out; omega)
               intro v169 w36 ho hb hg hat
               rw [← Ny168.out] at ho
               have HO170 := Aside0.mk (ho)
               replace BK148 := Aside0.mk (blk_grown (g := gb148) (o := .cells #[.string (⟨#[]⟩ : ByteArray), .string (⟨#[]⟩ : ByteArray), .int .i64 0, .string (⟨#[]⟩ : ByteArray), .string (⟨#[]⟩ : ByteArray), .int .i64 0, .string (⟨#[]⟩ : ByteArray), .string (⟨#[]⟩ : ByteArray), .string (⟨#[]⟩ : ByteArray), .slice none 0 0, .bool false] 48 (0, 0)) (blk_later BK148.out) hg (Kd.R_ne HO_163009.out BK148.out (by decide)))
               replace BK162 := Aside0.mk (blk_grown (g := gb162) (o := .cells #[.string t154, .string t155, .int .i64 t156, .string t157, .string t158, .int .i64 t159, .string t160, .string t161, .string x163008_18, u163009, .bool a4] 48 (0, 0)) (blk_later BK162.out) hg (Kd.R_ne HO_163009.out BK162.out (by decide)))
               replace HB := Aside0.mk (hb)
               clear HO_163009
               clear ho hb hg hat
               obtain ⟨Ao37, co37, eo37⟩ := Kd.R_slice HO170.out
               (first | subst eo37 | (injection eo37 with f1_ f2_ f3_; have f4_ := f1_.symm; have f5_ := f3_.symm; clear f1_ f2_ f3_; subst f4_; subst f5_))
               refine hK.out _ _ ⟨(blk_cell BK162.out 0).trans rfl, (blk_cell BK162.out 1).trans rfl, (blk_cell BK162.out 2).trans rfl, (blk_cell BK162.out 3).trans rfl, (blk_cell BK162.out 4).trans rfl, (blk_cell BK162.out 5).trans rfl, (blk_cell BK162.out 6).trans rfl, (blk_cell BK162.out 7).trans rfl, (blk_cell BK162.out 8).trans rfl, (blk_cell BK162.out 9).trans rfl, (blk_cell BK162.out 10).trans rfl, ((HB.out.cell (World.block_lt_of_cell? w _ hw167_0)).trans hw167_0)⟩ (fun hHeld => ?_)
               clear hK K
               refine norm_ (a' := ?_) ?_ ?_
               rotate_left
               ·show Act.put _ (some 66) _ = _
                simp only [Act.put, List.setIfInBounds_toArray, List.set_cons_zero, List.set_cons_succ, i64_w, i32_w]
                rfl
               refine pure_ (i := 8) (N := some 67) (v := ?_) (a' := ?_) #[true, true, true, true, true, true, true, true, true, false] rfl rfl (any_of HT_.out (by kernel_rfl)) (fun _ _ _ h => h) (Or.inl ⟨by rfl, ?_⟩) ?_ ?_
               rotate_left
               ·intro w'
                go_simp
                with_reducible rfl
               rotate_left
               ·simp only [Act.put, List.setIfInBounds_toArray, List.set_cons_zero, List.set_cons_succ, i64_w, i32_w]
                rfl
               refine last_ (i := 9) (N := none) #[true, true, true, true, true, true, true, true, true, true] rfl rfl (one_of HT_.out (by kernel_rfl)) (by decide) (fun K hK => ?_)
               have hq2 := fun j => blk_cell BK162.out j
               have hq6 := fun j => blk_frozen BK162.out j
               have hns38_0 := NB148_162.out
               have hms38_0 := NB162_148.out
               refine skip_ (w1 := ?_) (by rfl) rfl ?_ ?_
               rotate_left
               ·go_simp
                rfl
               refine hK.out _ _ ?_
               clear hK K
               refine done_ (done_of HT_.out (by kernel_rfl)) ?_
               try go_wp2
               go_roundg kj22
               case measure => have := HJ9.out; have := HJ18.out; have := HK3.out; have := HJ22.out; omega
               case rel => exact ⟨(wrap64 (x13_3 + 1)), (y168), (.slice Ao37 y168.length co37), (by first | rfl | (simp [bne, *]; done) | (simp; done)), H', ⟨by have := HJ9.out; have := HJ18.out; have := HK3.out; have := HJ22.out; omega⟩, ⟨by (with_reducible repeat (first | apply Kd.R_alloc | apply Kd.R_drewN | apply Kd.R_drew)); exact Kd.R_mono (Kd.R_far (p := ⟨gb162, 9, none⟩) (Kd.R_types HO170.out BK162.out (by decide)) (fun _ hk => hk.2) (.slice Ao37 y168.length co37)) (fun _ hk => trivial)⟩, ⟨by (with_reducible repeat (first | refine blk_drewN ?_ _ | refine blk_drew ?_ | refine blk_alloc ?_ _)); refine blk_far ?_ NB148_162.out _; (with_reducible repeat (first | refine blk_drewN ?_ _ | refine blk_drew ?_ | refine blk_alloc ?_ _)); exact BK148.out⟩, ⟨by (with_reducible repeat (first | refine blk_drewN ?_ _ | refine blk_drew ?_ | refine blk_alloc ?_ _)); refine blk_put (cs := #[.string t154, .string t155, .int .i64 t156, .string t157, .string t158, .int .i64 t159, .string t160, .string t161, .string x163008_18, u163009, .bool a4]) ?_ 9 _ rfl; (with_reducible repeat (first | refine blk_drewN ?_ _ | refine blk_drew ?_ | refine blk_alloc ?_ _)); exact BK162.out⟩, ⟨by repeat (first | (with_reducible first | exact HB.out | apply below_alloc | apply pw_below_drewN | apply below_drew1 | refine below_set ?_ GE148.out | refine below_set ?_ GE162.out) | exact HB.out)⟩⟩
              rw [if_neg c34] at H
              exact absurd H (by simp)
             rw [if_neg c33] at H
             have c33b0 : decide (((rdOf ByteArray.empty l3 x13_3).size : Int) ≤ 20) = false := decide_eq_false c33
             have c33b1 : decide ((rdOf ByteArray.empty l3 x13_3).size ≤ 20) = false := decide_eq_false (by omega)
             clear c33
             have H' := Aside0.mk H
             clear H
             have p164 : 0 ≤ (x13_3 : Int) := of_decide_eq_true (by first | (with_reducible assumption) | assumption)
             have q164 : x13_3 < (l3.length : Int) := of_decide_eq_true (by first | (with_reducible assumption) | assumption)
             obtain ⟨ad164, e164, hx164_0⟩ := Kd.at_string HR3.out x13_3 p164 q164
             cases e164
             replace hx164_0 := (HB.out.cell (World.block_lt_of_cell? w _ hx164_0)).trans hx164_0
             replace p164 := eq_true p164
             replace q164 := eq_true q164
             go_wp2_with (first | ((with_reducible refine gate_callee (f := 53) rfl ?_); refine goesL_ (some 49) rfl rfl Tryd.func53 (by kernel_rfl) rfl #[.string (rdOf ByteArray.empty l3 x13_3)] rfl (by (try simp only [List.map_toArray, List.map_cons, List.map_nil]); first | done | rfl) ?_; (with_reducible refine (r01_Token.calls kj22 (rdOf ByteArray.empty l3 x13_3) true _ A31.out).mono ?_); rintro e w' ⟨rfl, ⟨nd, rfl⟩⟩; refine ⟨_, rfl, ?_⟩; have p166 : 0 ≤ (x13_3 : Int) := of_decide_eq_true (by first | (with_reducible assumption) | assumption); have q166 : x13_3 < (l3.length : Int) := of_decide_eq_true (by first | (with_reducible assumption) | assumption); obtain ⟨ad166, e166, hx166_0⟩ := Kd.at_string HR3.out x13_3 p166 q166; obtain rfl : ad164 = ad166 := (by injection e166); replace hx166_0 := (HB.out.cell (World.block_lt_of_cell? w _ hx166_0)).trans hx166_0; replace p166 := eq_true p166; replace q166 := eq_true q166))
             go_roundg kj22
             case measure => have := HJ9.out; have := HJ18.out; have := HK3.out; have := HJ22.out; omega
             case rel => exact ⟨(wrap64 (x13_3 + 1)), (x163009_3), (u163009), (by first | rfl | (simp [bne, *]; done) | (simp; done)), H', ⟨by have := HJ9.out; have := HJ18.out; have := HK3.out; have := HJ22.out; omega⟩, ⟨by (with_reducible repeat (first | apply Kd.R_alloc | apply Kd.R_drewN | apply Kd.R_drew)); exact HO_163009.out⟩, ⟨by (with_reducible repeat (first | refine blk_drewN ?_ _ | refine blk_drew ?_ | refine blk_alloc ?_ _)); exact BK148.out⟩, ⟨by (with_reducible repeat (first | refine blk_drewN ?_ _ | refine blk_drew ?_ | refine blk_alloc ?_ _)); exact BK162.out⟩, ⟨by repeat (first | (with_reducible first | exact HB.out | apply below_alloc | apply pw_below_drewN | apply below_drew1 | refine below_set ?_ GE148.out | refine below_set ?_ GE162.out) | exact HB.out)⟩⟩
            replace c32 := Bool.eq_false_iff.mpr c32
            subst c32
            have H1 : (r17_Make.l0 kj22 l3 (wrap64 (x13_3 + 1)) t154 t155 t156 t157 t158 t159 t160 t161 x163008_18 x163009_3 a4) = some (r1, r2, r3, r4, r5, r6, r7, r8, r9, r10, r11) := by rw [if_neg (show ¬ (false = true) by decide)] at H; exact H
            clear H
            have H := H1
            clear H1
            have H' := Aside0.mk H
            clear H
            have p164 : 0 ≤ (x13_3 : Int) := of_decide_eq_true (by first | (with_reducible assumption) | assumption)
            have q164 : x13_3 < (l3.length : Int) := of_decide_eq_true (by first | (with_reducible assumption) | assumption)
            obtain ⟨ad164, e164, hx164_0⟩ := Kd.at_string HR3.out x13_3 p164 q164
            cases e164
            replace hx164_0 := (HB.out.cell (World.block_lt_of_cell? w _ hx164_0)).trans hx164_0
            replace p164 := eq_true p164
            replace q164 := eq_true q164
            go_wp2_with (first | ((with_reducible refine gate_callee (f := 53) rfl ?_); refine goesL_ (some 49) rfl rfl Tryd.func53 (by kernel_rfl) rfl #[.string (rdOf ByteArray.empty l3 x13_3)] rfl (by (try simp only [List.map_toArray, List.map_cons, List.map_nil]); first | done | rfl) ?_; (with_reducible refine (r01_Token.calls kj22 (rdOf ByteArray.empty l3 x13_3) false _ A31.out).mono ?_); rintro e w' ⟨rfl, ⟨nd, rfl⟩⟩; refine ⟨_, rfl, ?_⟩))
            go_roundg kj22
            case measure => have := HJ9.out; have := HJ18.out; have := HK3.out; have := HJ22.out; omega
            case rel => exact ⟨(wrap64 (x13_3 + 1)), (x163009_3), (u163009), (by first | rfl | (simp [bne, *]; done) | (simp; done)), H', ⟨by have := HJ9.out; have := HJ18.out; have := HK3.out; have := HJ22.out; omega⟩, ⟨by (with_reducible repeat (first | apply Kd.R_alloc | apply Kd.R_drewN | apply Kd.R_drew)); exact HO_163009.out⟩, ⟨by (with_reducible repeat (first | refine blk_drewN ?_ _ | refine blk_drew ?_ | refine blk_alloc ?_ _)); exact BK148.out⟩, ⟨by (with_reducible repeat (first | refine blk_drewN ?_ _ | refine blk_drew ?_ | refine blk_alloc ?_ _)); exact BK162.out⟩, ⟨by repeat (first | (with_reducible first | exact HB.out | apply below_alloc | apply pw_below_drewN | apply below_drew1 | refine below_set ?_ GE148.out | refine below_set ?_ GE162.out) | exact HB.out)⟩⟩
           rw [if_neg c30] at H
           exact absurd H (by simp)
          rw [if_neg c29] at H
          exact absurd H (by simp)
         replace c28 := Bool.eq_false_iff.mpr c28
         subst c28
         have H1 : (some (t154, t155, t156, t157, t158, t159, t160, t161, x163008_18, x163009_3, a4)) = some (r1, r2, r3, r4, r5, r6, r7, r8, r9, r10, r11) := by rw [if_neg (show ¬ (false = true) by decide)] at H; exact H
         clear H
         have H := H1
         clear H1
         simp only [Option.some.injEq, Prod.mk.injEq] at H
         obtain ⟨rfl, rfl, rfl, rfl, rfl, rfl, rfl, rfl, rfl, rfl, rfl⟩ := H
         have hnb39 := NB162_148.out
         have hnc39 := NB148_162.out
         have hcz40_0 : wc.cell? ⟨gb162, 0, none⟩ = some (.string t154) := (blk_cell BK162.out 0).trans rfl
         have hcz40_1 : wc.cell? ⟨gb162, 1, none⟩ = some (.string t155) := (blk_cell BK162.out 1).trans rfl
         have hcz40_2 : wc.cell? ⟨gb162, 2, none⟩ = some (.int .i64 t156) := (blk_cell BK162.out 2).trans rfl
         have hcz40_3 : wc.cell? ⟨gb162, 3, none⟩ = some (.string t157) := (blk_cell BK162.out 3).trans rfl
         have hcz40_4 : wc.cell? ⟨gb162, 4, none⟩ = some (.string t158) := (blk_cell BK162.out 4).trans rfl
         have hcz40_5 : wc.cell? ⟨gb162, 5, none⟩ = some (.int .i64 t159) := (blk_cell BK162.out 5).trans rfl
         have hcz40_6 : wc.cell? ⟨gb162, 6, none⟩ = some (.string t160) := (blk_cell BK162.out 6).trans rfl
         have hcz40_7 : wc.cell? ⟨gb162, 7, none⟩ = some (.string t161) := (blk_cell BK162.out 7).trans rfl
         have hcz40_8 : wc.cell? ⟨gb162, 8, none⟩ = some (.string x163008_18) := (blk_cell BK162.out 8).trans rfl
         have hcz40_9 : wc.cell? ⟨gb162, 9, none⟩ = some (u163009) := (blk_cell BK162.out 9).trans rfl
         have hcz40_10 : wc.cell? ⟨gb162, 10, none⟩ = some (.bool a4) := (blk_cell BK162.out 10).trans rfl
         have hq7 := fun j => blk_frozen BK162.out j
         have hcz41_0 : wc.cell? ⟨gb148, 0, none⟩ = some (.string (⟨#[]⟩ : ByteArray)) := (blk_cell BK148.out 0).trans rfl
         have hcz41_1 : wc.cell? ⟨gb148, 1, none⟩ = some (.string (⟨#[]⟩ : ByteArray)) := (blk_cell BK148.out 1).trans rfl
         have hcz41_2 : wc.cell? ⟨gb148, 2, none⟩ = some (.int .i64 0) := (blk_cell BK148.out 2).trans rfl
         have hcz41_3 : wc.cell? ⟨gb148, 3, none⟩ = some (.string (⟨#[]⟩ : ByteArray)) := (blk_cell BK148.out 3).trans rfl
         have hcz41_4 : wc.cell? ⟨gb148, 4, none⟩ = some (.string (⟨#[]⟩ : ByteArray)) := (blk_cell BK148.out 4).trans rfl
         have hcz41_5 : wc.cell? ⟨gb148, 5, none⟩ = some (.int .i64 0) := (blk_cell BK148.out 5).trans rfl
         have hcz41_6 : wc.cell? ⟨gb148, 6, none⟩ = some (.string (⟨#[]⟩ : ByteArray)) := (blk_cell BK148.out 6).trans rfl
         have hcz41_7 : wc.cell? ⟨gb148, 7, none⟩ = some (.string (⟨#[]⟩ : ByteArray)) := (blk_cell BK148.out 7).trans rfl
         have hcz41_8 : wc.cell? ⟨gb148, 8, none⟩ = some (.string (⟨#[]⟩ : ByteArray)) := (blk_cell BK148.out 8).trans rfl
         have hcz41_9 : wc.cell? ⟨gb148, 9, none⟩ = some (.slice none 0 0) := (blk_cell BK148.out 9).trans rfl
         have hcz41_10 : wc.cell? ⟨gb148, 10, none⟩ = some (.bool false) := (blk_cell BK148.out 10).trans rfl
         have hq8 := fun j => blk_frozen BK148.out j
         obtain ⟨Ao42, co42, eo42⟩ := Kd.R_slice HO_163009.out
         subst eo42
         go_wp2
         refine bodyPost_ret (results_cell_row rfl _ _ gb148 48 #[.string t154, .string t155, .int .i64 t156, .string t157, .string t158, .int .i64 t159, .string t160, .string t161, .string x163008_18, .slice Ao42 x163009_3.length co42, .bool a4] (0, 0) _ rfl (by (with_reducible repeat (first | refine blk_drewN ?_ _ | refine blk_drew ?_ | refine blk_alloc ?_ _)); refine blk_put (cs := #[.string t154, .string t155, .int .i64 t156, .string t157, .string t158, .int .i64 t159, .string t160, .string t161, .string x163008_18, .slice Ao42 x163009_3.length co42, .bool false]) ?_ 10 _ rfl; refine blk_put (cs := #[.string t154, .string t155, .int .i64 t156, .string t157, .string t158, .int .i64 t159, .string t160, .string t161, .string x163008_18, .slice none 0 0, .bool false]) ?_ 9 _ rfl; refine blk_put (cs := #[.string t154, .string t155, .int .i64 t156, .string t157, .string t158, .int .i64 t159, .string t160, .string t161, .string (⟨#[]⟩ : ByteArray), .slice none 0 0, .bool false]) ?_ 8 _ rfl; refine blk_put (cs := #[.string t154, .string t155, .int .i64 t156, .string t157, .string t158, .int .i64 t159, .string t160, .string (⟨#[]⟩ : ByteArray), .string (⟨#[]⟩ : ByteArray), .slice none 0 0, .bool false]) ?_ 7 _ rfl; refine blk_put (cs := #[.string t154, .string t155, .int .i64 t156, .string t157, .string t158, .int .i64 t159, .string (⟨#[]⟩ : ByteArray), .string (⟨#[]⟩ : ByteArray), .string (⟨#[]⟩ : ByteArray), .slice none 0 0, .bool false]) ?_ 6 _ rfl; refine blk_put (cs := #[.string t154, .string t155, .int .i64 t156, .string t157, .string t158, .int .i64 0, .string (⟨#[]⟩ : ByteArray), .string (⟨#[]⟩ : ByteArray), .string (⟨#[]⟩ : ByteArray), .slice none 0 0, .bool false]) ?_ 5 _ rfl; refine blk_put (cs := #[.string t154, .string t155, .int .i64 t156, .string t157, .string (⟨#[]⟩ : ByteArray), .int .i64 0, .string (⟨#[]⟩ : ByteArray), .string (⟨#[]⟩ : ByteArray), .string (⟨#[]⟩ : ByteArray), .slice none 0 0, .bool false]) ?_ 4 _ rfl; refine blk_put (cs := #[.string t154, .string t155, .int .i64 t156, .string (⟨#[]⟩ : ByteArray), .string (⟨#[]⟩ : ByteArray), .int .i64 0, .string (⟨#[]⟩ : ByteArray), .string (⟨#[]⟩ : ByteArray), .string (⟨#[]⟩ : ByteArray), .slice none 0 0, .bool false]) ?_ 3 _ rfl; refine blk_put (cs := #[.string t154, .string t155, .int .i64 0, .string (⟨#[]⟩ : ByteArray), .string (⟨#[]⟩ : ByteArray), .int .i64 0, .string (⟨#[]⟩ : ByteArray), .string (⟨#[]⟩ : ByteArray), .string (⟨#[]⟩ : ByteArray), .slice none 0 0, .bool false]) ?_ 2 _ rfl; refine blk_put (cs := #[.string t154, .string (⟨#[]⟩ : ByteArray), .int .i64 0, .string (⟨#[]⟩ : ByteArray), .string (⟨#[]⟩ : ByteArray), .int .i64 0, .string (⟨#[]⟩ : ByteArray), .string (⟨#[]⟩ : ByteArray), .string (⟨#[]⟩ : ByteArray), .slice none 0 0, .bool false]) ?_ 1 _ rfl; refine blk_put (cs := #[.string (⟨#[]⟩ : ByteArray), .string (⟨#[]⟩ : ByteArray), .int .i64 0, .string (⟨#[]⟩ : ByteArray), .string (⟨#[]⟩ : ByteArray), .int .i64 0, .string (⟨#[]⟩ : ByteArray), .string (⟨#[]⟩ : ByteArray), .string (⟨#[]⟩ : ByteArray), .slice none 0 0, .bool false]) ?_ 0 _ rfl; (with_reducible repeat (first | refine blk_drewN ?_ _ | refine blk_drew ?_ | refine blk_alloc ?_ _)); exact BK148.out) Tryd.underlying48 rfl (by kernel_rfl)) rfl ?_
         exact ⟨_, by first | rfl | (simp [errW_none, errW_some] <;> rfl) | (simp [*, errW_none, errW_some] <;> rfl), by (with_reducible repeat (first | apply Kd.R_alloc | apply Kd.R_drewN | apply Kd.R_drew)); exact Kd.R_mono (R_fars (g := gb148) (Kd.R_types HO_163009.out BK148.out (by decide)) (fun _ hk => hk.2)) (fun _ hk => trivial), by repeat (first | (with_reducible first | exact HB.out | apply below_alloc | apply pw_below_drewN | apply below_drew1 | refine below_set ?_ GE148.out | refine below_set ?_ GE162.out) | exact HB.out)⟩

/-! ### r17_Simple: function 26 -/
def r17_Simple.f (a0 : ByteArray) : Option (Bool) := if a0.toList = ([71, 69, 84] : List UInt8) then (some true) else (if a0.toList = ([72, 69, 65, 68] : List UInt8) then (some true) else (some (a0.toList == ([80, 79, 83, 84] : List UInt8))))
set_option maxHeartbeats 8000000 in
set_option maxRecDepth 100000 in
theorem r17_Simple.calls (a0 : ByteArray) (r : Bool) (w : World) (h : r17_Simple.f a0 = some r) :
  Calls Tryd.prog 26 #[.string a0] w fun e w' => e = .returned (.bool r) ∧ Drawn0 w w' := by
 have H := h
 unfold r17_Simple.f at H
 clear h
 by_cases c2 : a0.toList = ([71, 69, 84] : List UInt8)
 ·rw [if_pos c2] at H
  have c2b0 : (a0.toList == ([71, 69, 84] : List UInt8)) = true := beq_iff_eq.mpr c2
  have c2b1 : (a0.toList != ([71, 69, 84] : List UInt8)) = false := bne_eq_false_iff_eq.mpr c2
  clear c2
  obtain rfl := Option.some.inj H
  go_enter Tryd.func26, Tryd.ntmps26
  go_wp2
  go_ret
  exact ⟨by first | rfl | (simp [bne, *]; done) | (simp; done), by repeat (first | exact Drawn0.refl _ | apply Drawn0.step)⟩
 rw [if_neg c2] at H
 have c2b0 : (a0.toList == ([71, 69, 84] : List UInt8)) = false := beq_eq_false_iff_ne.mpr c2
 have c2b1 : (a0.toList != ([71, 69, 84] : List UInt8)) = true := bne_iff_ne.mpr c2
 by_cases c3 : a0.toList = ([72, 69, 65, 68] : List UInt8)
 ·rw [if_pos c3] at H
  have c3b0 : (a0.toList == ([72, 69, 65, 68] : List UInt8)) = true := beq_iff_eq.mpr c3
  have c3b1 : (a0.toList != ([72, 69, 65, 68] : List UInt8)) = false := bne_eq_false_iff_eq.mpr c3
  clear c3
  obtain rfl := Option.some.inj H
  go_enter Tryd.func26, Tryd.ntmps26
  go_wp2
  go_ret
  exact ⟨by first | rfl | (simp [bne, *]; done) | (simp; done), by repeat (first | exact Drawn0.refl _ | apply Drawn0.step)⟩
 rw [if_neg c3] at H
 have c3b0 : (a0.toList == ([72, 69, 65, 68] : List UInt8)) = false := beq_eq_false_iff_ne.mpr c3
 have c3b1 : (a0.toList != ([72, 69, 65, 68] : List UInt8)) = true := bne_iff_ne.mpr c3
 obtain rfl := Option.some.inj H
 go_enter Tryd.func26, Tryd.ntmps26
 go_wp2
 go_ret
 exact ⟨by first | rfl | (simp [bne, *]; done) | (simp; done), by repeat (first | exact Drawn0.refl _ | apply Drawn0.step)⟩

end Go.Proofs.YthjhbhgfckaklaaDoor.P
end
