-- PRINTED by pr.py (a driver round the kit's print program): not trusted, Lean checks it.
import Derived.Test.YthjhbhgfckaklaaDoorM2
import Derived.Test.YthjhbhgfckaklaaDoorRow
import Derived.Test.YthjhbhgfckaklaaDoorM5
namespace Go.Proofs.YthjhbhgfckaklaaDoor.P
open Go.RowKit Go.Proofs.YthjhbhgfckaklaaDoorW.PrintWords Go.Proofs.YthjhbhgfckaklaaDoorW.PrintLast Go.Proofs.YthjhbhgfckaklaaDoorW.PrintMore
attribute [local go_sem] max2_int min2_int max_two min_two max_three min_three max_four min_four   -- for this text's walks alone
set_option linter.unusedVariables false
set_option linter.unusedSimpArgs false

/-! ### w17_made: function 18 -/
def w17_made.f (k : Nat) (a0_0 : ByteArray) (a0_1 : ByteArray) (a0_2 : ByteArray) (l0_3 : List ByteArray) (a0_4 : Bool) : Option (ByteArray × ByteArray × Int × ByteArray × ByteArray × Int × ByteArray × ByteArray × ByteArray × List ByteArray × Bool × ByteArray × ByteArray × Int × ByteArray × ByteArray × Int × ByteArray × ByteArray × ByteArray × List ByteArray × Bool) := (r01_Few.f a0_0 100).bind fun t162 => ((r01_Few.f a0_1 100).bind fun t163 => ((r17_Make.f k t162 t163 a0_2 l0_3 a0_4).bind fun bt164 => (some (bt164.1, bt164.2.1, bt164.2.2.1, bt164.2.2.2.1, bt164.2.2.2.2.1, bt164.2.2.2.2.2.1, bt164.2.2.2.2.2.2.1, bt164.2.2.2.2.2.2.2.1, bt164.2.2.2.2.2.2.2.2.1, bt164.2.2.2.2.2.2.2.2.2.1, bt164.2.2.2.2.2.2.2.2.2.2, bt164.1, bt164.2.1, bt164.2.2.1, bt164.2.2.2.1, bt164.2.2.2.2.1, bt164.2.2.2.2.2.1, bt164.2.2.2.2.2.2.1, bt164.2.2.2.2.2.2.2.1, bt164.2.2.2.2.2.2.2.2.1, bt164.2.2.2.2.2.2.2.2.2.1, bt164.2.2.2.2.2.2.2.2.2.2))))
def w17_made.T1 : Bool × List (List Nat × List Nat) := (true, [([], []), ([0], [0]), ([1], [1]), ([], []), ([3], [3]), ([4, 2], [4]), ([], []), ([6], [6]), ([], []), ([8], [8]), ([], []), ([10], [10]), ([2, 5, 7, 9, 11, 5], [2, 5, 7, 9, 11]), ([], []), ([13, 12, 12, 0, 1, 2, 3, 4, 5, 6, 7, 8, 9, 10, 11, 12, 13], [12, 13])])
def w17_made.B1 : List Nat := [0, 1, 3, 0, 8, 31, 0, 64, 0, 256, 0, 1024, 4095, 0, 16383]
theorem w17_made.tab1 : rtab .any (opsOf Tryd.f18 1) = w17_made.T1 := by kernel_rfl
theorem w17_made.bits1 : waitsOk w17_made.T1.2 w17_made.B1 = true := by kernel_rfl
def w17_made.T2 : Bool × List (List Nat × List Nat) := (true, [([], []), ([0], [0]), ([], []), ([2], [2]), ([], []), ([4], [4]), ([], []), ([6], [6]), ([], []), ([8], [8]), ([1, 3, 5, 7, 9], [1, 3, 5, 7, 9]), ([], []), ([10, 0, 1, 2, 3, 4, 5, 6, 7, 8, 9, 10], [10]), ([11, 12, 0, 1, 2, 3, 4, 5, 6, 7, 8, 9, 10, 11, 12], [11])])
def w17_made.B2 : List Nat := [0, 1, 0, 4, 0, 16, 0, 64, 0, 256, 1023, 0, 2047, 8191]
theorem w17_made.tab2 : rtab .any (opsOf Tryd.f18 2) = w17_made.T2 := by kernel_rfl
theorem w17_made.bits2 : waitsOk w17_made.T2.2 w17_made.B2 = true := by kernel_rfl
set_option maxHeartbeats 100000000 in
set_option maxRecDepth 100000 in
theorem w17_made.calls (k : Nat) (a0_0 : ByteArray) (a0_1 : ByteArray) (a0_2 : ByteArray) (A0_3 : Option Addr) (c0_3 : Nat) (l0_3 : List ByteArray) (a0_4 : Bool) (r1 : ByteArray) (r2 : ByteArray) (r3 : Int) (r4 : ByteArray) (r5 : ByteArray) (r6 : Int) (r7 : ByteArray) (r8 : ByteArray) (r9 : ByteArray) (r10 : List ByteArray) (r11 : Bool) (r12 : ByteArray) (r13 : ByteArray) (r14 : Int) (r15 : ByteArray) (r16 : ByteArray) (r17 : Int) (r18 : ByteArray) (r19 : ByteArray) (r20 : ByteArray) (r21 : List ByteArray) (r22 : Bool) (w : World) (hr0_3 : Kd.C Kd.string w A0_3 l0_3.length l0_3) (hc0_3 : l0_3.length ≤ c0_3) (h : w17_made.f k a0_0 a0_1 a0_2 l0_3 a0_4 = some (r1, r2, r3, r4, r5, r6, r7, r8, r9, r10, r11, r12, r13, r14, r15, r16, r17, r18, r19, r20, r21, r22)) :
  Calls Tryd.prog 18 #[.agg #[.string a0_0, .string a0_1, .string a0_2, .slice A0_3 l0_3.length c0_3, .bool a0_4]] w fun e w' => ∃ v9_ v20_ : Value, e = .returned (.tuple #[.agg #[.string r1, .string r2, .int .i64 r3, .string r4, .string r5, .int .i64 r6, .string r7, .string r8, .string r9, v9_, .bool r11], .agg #[.string r12, .string r13, .int .i64 r14, .string r15, .string r16, .int .i64 r17, .string r18, .string r19, .string r20, v20_, .bool r22]]) ∧ Kd.V Kd.string 9 w' w.heap.size (fun k_ => (w.heap.size ≤ k_)) v9_ r10 ∧ Kd.V Kd.string 9 w' w.heap.size (fun k_ => (w.heap.size ≤ k_)) v20_ r21 ∧ Below w.heap.size w w' := by
 have hu41 := Tryd.underlying41
 have hu47 := Tryd.underlying47
 have hu48 := Tryd.underlying48
 have hu43 := Tryd.underlying43
 have hu45 := Tryd.underlying45
 have HR0_3 := Aside0.mk hr0_3
 have HC0_3 := Aside0.mk hc0_3
 clear hr0_3 hc0_3
 have HB := Aside0.mk (Below.refl w.heap.size w)
 have H := h
 unfold w17_made.f at H
 clear h
 replace H := Option.bind_eq_some_iff.mp H
 obtain ⟨t162, A20, H⟩ := H
 try dsimp only at H
 have A2 := Aside0.mk A20
 clear A20
 replace H := Option.bind_eq_some_iff.mp H
 obtain ⟨t163, A30, H⟩ := H
 try dsimp only at H
 have A3 := Aside0.mk A30
 clear A30
 replace H := Option.bind_eq_some_iff.mp H
 obtain ⟨⟨t164, t165, t166, t167, t168, t169, t170, t171, t172, t173, t176⟩, A40, H⟩ := H
 try dsimp only at H
 have A4 := Aside0.mk A40
 clear A40
 simp only [Option.some.injEq, Prod.mk.injEq] at H
 obtain ⟨rfl, rfl, rfl, rfl, rfl, rfl, rfl, rfl, rfl, rfl, rfl, rfl, rfl, rfl, rfl, rfl, rfl, rfl, rfl, rfl, rfl, rfl⟩ := H
 go_enter Tryd.func18, Tryd.ntmps18
 try go_wp2_with (first | ((with_reducible refine gate_dst (N := 1) rfl ?_); refine box_event ?hg (N := 1) ?hd (cs := #[.string a0_0, .string a0_1, .string a0_2, .slice A0_3 l0_3.length c0_3, .bool a0_4]) (t := 41) ?hr ?_; (case hd => rfl); (case hg => rfl); (case hr => first | (go_simp; done) | (go_simp; rfl)); intro gb159 hg w5 hbox hb; have BK159 := Aside0.mk (hbox); have GW159 := Aside0.mk ((by rw [hg]; exact (below_size (bel_later HB.out)) : w.heap.size ≤ gb159)); have GE159 := Aside0.mk ((by rw [hg]; exact (below_size (bel_later HB.out)) : w.heap.size ≤ gb159)); replace HB := Aside0.mk (below_step (bel_later HB.out) hb); clear hb hbox hg) | ((with_reducible refine gate_dst (N := 2) rfl ?_); refine box_event ?hg (N := 2) ?hd (cs := #[.string (⟨#[]⟩ : ByteArray), .string (⟨#[]⟩ : ByteArray), .int .i64 0, .string (⟨#[]⟩ : ByteArray), .string (⟨#[]⟩ : ByteArray), .int .i64 0, .string (⟨#[]⟩ : ByteArray), .string (⟨#[]⟩ : ByteArray), .string (⟨#[]⟩ : ByteArray), .slice none 0 0, .bool false]) (t := 47) ?hr ?_; (case hd => rfl); (case hg => rfl); (case hr => first | (go_simp; done) | (go_simp; rfl)); intro gb160 hg w6 hbox hb; have BK160 := Aside0.mk (hbox); have GW160 := Aside0.mk ((by rw [hg]; exact (below_size (by repeat (first | (with_reducible first | exact HB.out | apply below_alloc | apply pw_below_drewN | apply below_drew1 | refine below_set ?_ GE159.out) | exact HB.out))) : w.heap.size ≤ gb160)); have GE160 := Aside0.mk ((by rw [hg]; exact (below_size (by repeat (first | (with_reducible first | exact HB.out | apply below_alloc | apply pw_below_drewN | apply below_drew1 | refine below_set ?_ GE159.out) | exact HB.out))) : w.heap.size ≤ gb160)); have NB159_160 := Aside0.mk ((by rw [hg]; exact Nat.ne_of_lt (blk_lt (blk_later BK159.out)) : gb159 ≠ gb160)); have NB160_159 := Aside0.mk ((by rw [hg]; exact Nat.ne_of_gt (blk_lt (blk_later BK159.out)) : gb160 ≠ gb159)); replace BK159 := Aside0.mk (blk_below (blk_later BK159.out) hb); replace HB := Aside0.mk (below_step (by repeat (first | (with_reducible first | exact HB.out | apply below_alloc | apply pw_below_drewN | apply below_drew1 | refine below_set ?_ GE159.out) | exact HB.out)) hb); clear hb hbox hg) | ((with_reducible refine gate_dst (N := 3) rfl ?_); refine box_event ?hg (N := 3) ?hd (cs := #[.string (⟨#[]⟩ : ByteArray), .string (⟨#[]⟩ : ByteArray), .int .i64 0, .string (⟨#[]⟩ : ByteArray), .string (⟨#[]⟩ : ByteArray), .int .i64 0, .string (⟨#[]⟩ : ByteArray), .string (⟨#[]⟩ : ByteArray), .string (⟨#[]⟩ : ByteArray), .slice none 0 0, .bool false]) (t := 48) ?hr ?_; (case hd => rfl); (case hg => rfl); (case hr => first | (go_simp; done) | (go_simp; rfl)); intro gb161 hg w7 hbox hb; have BK161 := Aside0.mk (hbox); have GW161 := Aside0.mk ((by rw [hg]; exact (below_size (by repeat (first | (with_reducible first | exact HB.out | apply below_alloc | apply pw_below_drewN | apply below_drew1 | refine below_set ?_ GE159.out | refine below_set ?_ GE160.out) | exact HB.out))) : w.heap.size ≤ gb161)); have GE161 := Aside0.mk ((by rw [hg]; exact (below_size (by repeat (first | (with_reducible first | exact HB.out | apply below_alloc | apply pw_below_drewN | apply below_drew1 | refine below_set ?_ GE159.out | refine below_set ?_ GE160.out) | exact HB.out))) : w.heap.size ≤ gb161)); have NB159_161 := Aside0.mk ((by rw [hg]; exact Nat.ne_of_lt (blk_lt (blk_later BK159.out)) : gb159 ≠ gb161)); have NB161_159 := Aside0.mk ((by rw [hg]; exact Nat.ne_of_gt (blk_lt (blk_later BK159.out)) : gb161 ≠ gb159)); have NB160_161 := Aside0.mk ((by rw [hg]; exact Nat.ne_of_lt (blk_lt (blk_later BK160.out)) : gb160 ≠ gb161)); have NB161_160 := Aside0.mk ((by rw [hg]; exact Nat.ne_of_gt (blk_lt (blk_later BK160.out)) : gb161 ≠ gb160)); replace BK159 := Aside0.mk (blk_below (blk_later BK159.out) hb); replace BK160 := Aside0.mk (blk_below (blk_later BK160.out) hb); replace HB := Aside0.mk (below_step (by repeat (first | (with_reducible first | exact HB.out | apply below_alloc | apply pw_below_drewN | apply below_drew1 | refine below_set ?_ GE159.out | refine below_set ?_ GE160.out) | exact HB.out)) hb); clear hb hbox hg))
 replace BK159 := Aside0.mk (blk_drew BK159.out)
 replace BK160 := Aside0.mk (blk_drew BK160.out)
 replace BK161 := Aside0.mk (blk_drew BK161.out)
 replace HB := Aside0.mk (below_drew1 HB.out)
 refine start_ (n := 15) (S := fun w' => w'.cell? ⟨gb159, 0, none⟩ = some (.string a0_0) ∧ w'.cell? ⟨gb159, 1, none⟩ = some (.string a0_1) ∧ w'.cell? ⟨gb159, 2, none⟩ = some (.string a0_2) ∧ w'.cell? ⟨gb159, 3, none⟩ = some (.slice A0_3 l0_3.length c0_3) ∧ w'.cell? ⟨gb159, 4, none⟩ = some (.bool a0_4)) (ds := []) #[false, false, false, false, false, false, false, false, false, false, false, false, false, false, false] (by kernel_rfl) rfl rfl (by and_intros <;> exact (blk_cell BK159.out _).trans rfl) (fun hHeld => ?_); refine with_tabW w17_made.tab1 w17_made.bits1 (fun HT_ HW_ => ?_)
 generalize w7.drew = w8 at BK159 BK160 BK161 HB hHeld ⊢
 refine pure_ (i := 0) (N := some 5) (v := ?_) (a' := ?_) #[true, false, false, false, false, false, false, false, false, false, false, false, false, false, false] rfl rfl (any_of HT_.out (by kernel_rfl)) (fun _ _ _ h => h) (Or.inl ⟨by rfl, ?_⟩) ?_ ?_
 rotate_left
 ·intro w'
  go_simp
  with_reducible rfl
 rotate_left
 ·simp only [Act.put, List.setIfInBounds_toArray, List.set_cons_zero, List.set_cons_succ, i64_w, i32_w]
  rfl
 refine pure_ (i := 3) (N := some 8) (v := ?_) (a' := ?_) #[true, false, false, true, false, false, false, false, false, false, false, false, false, false, false] rfl rfl (any_of HT_.out (by kernel_rfl)) (fun _ _ _ h => h) (Or.inl ⟨by rfl, ?_⟩) ?_ ?_
 rotate_left
 ·intro w'
  go_simp
  with_reducible rfl
 rotate_left
 ·simp only [Act.put, List.setIfInBounds_toArray, List.set_cons_zero, List.set_cons_succ, i64_w, i32_w]
  rfl
 refine pure_ (i := 6) (N := some 11) (v := ?_) (a' := ?_) #[true, false, false, true, false, false, true, false, false, false, false, false, false, false, false] rfl rfl (any_of HT_.out (by kernel_rfl)) (fun _ _ _ h => h) (Or.inl ⟨by rfl, ?_⟩) ?_ ?_
 rotate_left
 ·intro w'
  go_simp
  with_reducible rfl
 rotate_left
 ·simp only [Act.put, List.setIfInBounds_toArray, List.set_cons_zero, List.set_cons_succ, i64_w, i32_w]
  rfl
 refine pure_ (i := 8) (N := some 13) (v := ?_) (a' := ?_) #[true, false, false, true, false, false, true, false, true, false, false, false, false, false, false] rfl rfl (any_of HT_.out (by kernel_rfl)) (fun _ _ _ h => h) (Or.inl ⟨by rfl, ?_⟩) ?_ ?_
 rotate_left
 ·intro w'
  go_simp
  with_reducible rfl
 rotate_left
 ·simp only [Act.put, List.setIfInBounds_toArray, List.set_cons_zero, List.set_cons_succ, i64_w, i32_w]
  rfl
 refine pure_ (i := 10) (N := some 15) (v := ?_) (a' := ?_) #[true, false, false, true, false, false, true, false, true, false, true, false, false, false, false] rfl rfl (any_of HT_.out (by kernel_rfl)) (fun _ _ _ h => h) (Or.inl ⟨by rfl, ?_⟩) ?_ ?_
 rotate_left
 ·intro w'
  go_simp
  with_reducible rfl
 rotate_left
 ·simp only [Act.put, List.setIfInBounds_toArray, List.set_cons_zero, List.set_cons_succ, i64_w, i32_w]
  rfl
 refine take_ (i := 1) (N := some 6) (v := ?_) (a' := ?_) #[true, true, false, true, false, false, true, false, true, false, true, false, false, false, false] rfl rfl (take_ofW HT_.out HW_.out (by kernel_rfl)) (fun _ _ _ h => h) (Or.inl ⟨by rfl, ?_⟩) hHeld ?_ ?_
 rotate_left
 ·rintro w' ⟨s0, s1, s2, s3, s4⟩
  go_simp
  with_reducible rfl
 rotate_left
 ·simp only [Act.put, List.setIfInBounds_toArray, List.set_cons_zero, List.set_cons_succ, i64_w, i32_w]
  rfl
 refine take_ (i := 4) (N := some 9) (v := ?_) (a' := ?_) #[true, true, false, true, true, false, true, false, true, false, true, false, false, false, false] rfl rfl (take_ofW HT_.out HW_.out (by kernel_rfl)) (fun _ _ _ h => h) (Or.inl ⟨by rfl, ?_⟩) hHeld ?_ ?_
 rotate_left
 ·rintro w' ⟨s0, s1, s2, s3, s4⟩
  go_simp
  with_reducible rfl
 rotate_left
 ·simp only [Act.put, List.setIfInBounds_toArray, List.set_cons_zero, List.set_cons_succ, i64_w, i32_w]
  rfl
 refine take_ (i := 7) (N := some 12) (v := ?_) (a' := ?_) #[true, true, false, true, true, false, true, true, true, false, true, false, false, false, false] rfl rfl (take_ofW HT_.out HW_.out (by kernel_rfl)) (fun _ _ _ h => h) (Or.inl ⟨by rfl, ?_⟩) hHeld ?_ ?_
 rotate_left
 ·rintro w' ⟨s0, s1, s2, s3, s4⟩
  go_simp
  with_reducible rfl
 rotate_left
 ·simp only [Act.put, List.setIfInBounds_toArray, List.set_cons_zero, List.set_cons_succ, i64_w, i32_w]
  rfl
 refine take_ (i := 9) (N := some 14) (v := ?_) (a' := ?_) #[true, true, false, true, true, false, true, true, true, true, true, false, false, false, false] rfl rfl (take_ofW HT_.out HW_.out (by kernel_rfl)) (fun _ _ _ h => h) (Or.inl ⟨by rfl, ?_⟩) hHeld ?_ ?_
 rotate_left
 ·rintro w' ⟨s0, s1, s2, s3, s4⟩
  go_simp
  with_reducible rfl
 rotate_left
 ·simp only [Act.put, List.setIfInBounds_toArray, List.set_cons_zero, List.set_cons_succ, i64_w, i32_w]
  rfl
 refine take_ (i := 11) (N := some 16) (v := ?_) (a' := ?_) #[true, true, false, true, true, false, true, true, true, true, true, true, false, false, false] rfl rfl (take_ofW HT_.out HW_.out (by kernel_rfl)) (fun _ _ _ h => h) (Or.inl ⟨by rfl, ?_⟩) hHeld ?_ ?_
 rotate_left
 ·rintro w' ⟨s0, s1, s2, s3, s4⟩
  go_simp
  with_reducible rfl
 rotate_left
 ·simp only [Act.put, List.setIfInBounds_toArray, List.set_cons_zero, List.set_cons_succ, i64_w, i32_w]
  rfl
 refine join_ (σ := Value × Nat) 1 #[true, true, true, true, true, true, true, true, true, true, true, true, true, true, false] (fun s_ => [(7, .string t162), (10, .string t163), (17, .agg #[.string t164, .string t165, .int .i64 t166, .string t167, .string t168, .int .i64 t169, .string t170, .string t171, .string t172, s_.1, .bool t176]), (4, .pointer (some ⟨s_.2, 0, none⟩))]) (fun s_ w' => (w'.cell? ⟨gb159, 0, none⟩ = some (.string a0_0) ∧ w'.cell? ⟨gb159, 1, none⟩ = some (.string a0_1) ∧ w'.cell? ⟨gb159, 2, none⟩ = some (.string a0_2) ∧ w'.cell? ⟨gb159, 3, none⟩ = some (.slice A0_3 l0_3.length c0_3) ∧ w'.cell? ⟨gb159, 4, none⟩ = some (.bool a0_4)) ∧ (Kd.R Kd.string 9 w' w.heap.size (fun k_ => (w.heap.size ≤ k_)) s_.1 t173) ∧ (w'.heap[gb159]? = some (.cells #[.string a0_0, .string a0_1, .string a0_2, .slice A0_3 l0_3.length c0_3, .bool a0_4] 41 (0, 0))) ∧ (w'.heap[gb160]? = some (.cells #[.string (⟨#[]⟩ : ByteArray), .string (⟨#[]⟩ : ByteArray), .int .i64 0, .string (⟨#[]⟩ : ByteArray), .string (⟨#[]⟩ : ByteArray), .int .i64 0, .string (⟨#[]⟩ : ByteArray), .string (⟨#[]⟩ : ByteArray), .string (⟨#[]⟩ : ByteArray), .slice none 0 0, .bool false] 47 (0, 0))) ∧ (w'.heap[gb161]? = some (.cells #[.string (⟨#[]⟩ : ByteArray), .string (⟨#[]⟩ : ByteArray), .int .i64 0, .string (⟨#[]⟩ : ByteArray), .string (⟨#[]⟩ : ByteArray), .int .i64 0, .string (⟨#[]⟩ : ByteArray), .string (⟨#[]⟩ : ByteArray), .string (⟨#[]⟩ : ByteArray), .slice none 0 0, .bool false] 48 (0, 0))) ∧ (w'.heap[s_.2]? = some (.cells #[.string (⟨#[]⟩ : ByteArray), .string (⟨#[]⟩ : ByteArray), .int .i64 0, .string (⟨#[]⟩ : ByteArray), .string (⟨#[]⟩ : ByteArray), .int .i64 0, .string (⟨#[]⟩ : ByteArray), .string (⟨#[]⟩ : ByteArray), .string (⟨#[]⟩ : ByteArray), .slice none 0 0, .bool false] 48 (0, 0))) ∧ (w.heap.size ≤ s_.2) ∧ (w.heap.size ≤ s_.2) ∧ (gb159 ≠ s_.2) ∧ (s_.2 ≠ gb159) ∧ (gb160 ≠ s_.2) ∧ (s_.2 ≠ gb160) ∧ (gb161 ≠ s_.2) ∧ (s_.2 ≠ gb161) ∧ (Below w.heap.size w w')) ?_ ?_
 rotate_left
 ·intro hCont
  refine two_ (i := 2) (j := 13) (Ni := some 7) (Nj := some 4) #[true, true, true, true, true, false, true, true, true, true, true, true, false, false, false] #[true, true, false, true, true, false, true, true, true, true, true, true, false, true, false] rfl rfl rfl rfl (two_of HT_.out (by kernel_rfl)) (by decide) (by decide) (fun K hK => ?_) (fun K hK => ?_)
  ·skip
   refine goes_ Tryd.func8 (by kernel_rfl) rfl #[.string a0_0, .int .i64 100] (by rfl) rfl rfl (by (try simp only [List.map_toArray, List.map_cons, List.map_nil]); first | done | rfl) ?_
   with_reducible refine (r01_Few.calls a0_0 100 t162 _ A2.out).mono ?_
   rintro e w' ⟨rfl, ⟨nd, rfl⟩⟩
   refine ⟨_, rfl, ?_⟩
   refine hK.out _ _ (by and_intros <;> exact (blk_cell BK159.out _).trans rfl) (fun hHeld => ?_)
   clear hK K
   refine norm_ (a' := ?_) ?_ ?_
   rotate_left
   ·show Act.put _ (some 7) _ = _
    simp only [Act.put, List.setIfInBounds_toArray, List.set_cons_zero, List.set_cons_succ, i64_w, i32_w]
    rfl
   refine two_ (i := 5) (j := 13) (Ni := some 10) (Nj := some 4) #[true, true, true, true, true, true, true, true, true, true, true, true, false, false, false] #[true, true, true, true, true, false, true, true, true, true, true, true, false, true, false] rfl rfl rfl rfl (two_of HT_.out (by kernel_rfl)) (by decide) (by decide) (fun K hK => ?_) (fun K hK => ?_)
   ·skip
    refine goes_ Tryd.func8 (by kernel_rfl) rfl #[.string a0_1, .int .i64 100] (by rfl) rfl rfl (by (try simp only [List.map_toArray, List.map_cons, List.map_nil]); first | done | rfl) ?_
    with_reducible refine (r01_Few.calls a0_1 100 t163 _ A3.out).mono ?_
    rintro e w' ⟨rfl, ⟨nd, rfl⟩⟩
    refine ⟨_, rfl, ?_⟩
    refine hK.out _ _ (by and_intros <;> exact (blk_cell BK159.out _).trans rfl) (fun hHeld => ?_)
    clear hK K
    refine norm_ (a' := ?_) ?_ ?_
    rotate_left
    ·show Act.put _ (some 10) _ = _
     simp only [Act.put, List.setIfInBounds_toArray, List.set_cons_zero, List.set_cons_succ, i64_w, i32_w]
     rfl
    refine two_ (i := 12) (j := 13) (Ni := some 17) (Nj := some 4) #[true, true, true, true, true, true, true, true, true, true, true, true, true, false, false] #[true, true, true, true, true, true, true, true, true, true, true, true, false, true, false] rfl rfl rfl rfl (two_of HT_.out (by kernel_rfl)) (by decide) (by decide) (fun K hK => ?_) (fun K hK => ?_)
    ·skip
     refine goes_ Tryd.func44 (by kernel_rfl) rfl #[.string t162, .string t163, .string a0_2, .slice A0_3 l0_3.length c0_3, .bool a0_4] (by rfl) rfl rfl (by (try simp only [List.map_toArray, List.map_cons, List.map_nil]); first | done | rfl) ?_
     with_reducible refine (r17_Make.calls k t162 t163 a0_2 _ _ l0_3 a0_4 t164 t165 t166 t167 t168 t169 t170 t171 t172 t173 t176 _ ?side1 ?side2 A4.out).mono ?_
     (case side1 => repeat (first | exact (Kd.C_below HR0_3.out (by repeat (first | (with_reducible first | exact HB.out | apply below_alloc | apply pw_below_drewN | apply below_drew1 | refine below_set ?_ GE159.out | refine below_set ?_ GE160.out | refine below_set ?_ GE161.out) | exact HB.out))) | (with_reducible refine Kd.C_alloc ?_ _) | (with_reducible refine Kd.C_drewN ?_ _) | (with_reducible refine Kd.C_drew ?_)))
     (case side2 => exact HC0_3.out)
     rintro e w9 ⟨v174, rfl, ho0, hb⟩
     refine ⟨_, rfl, ?_⟩
     have HO175 := Aside0.mk (Kd.R_lower (Kd.R_newM (M := fun k_ => (w.heap.size ≤ k_)) ho0 (below_size (by repeat (first | (with_reducible first | exact HB.out | apply below_alloc | apply pw_below_drewN | apply below_drew1 | refine below_set ?_ GE159.out | refine below_set ?_ GE160.out | refine below_set ?_ GE161.out) | exact HB.out))) (fun k_ h_ => h_)) (below_size (by repeat (first | (with_reducible first | exact HB.out | apply below_alloc | apply pw_below_drewN | apply below_drew1 | refine below_set ?_ GE159.out | refine below_set ?_ GE160.out | refine below_set ?_ GE161.out) | exact HB.out))))
     replace BK159 := Aside0.mk (blk_below (blk_later BK159.out) hb)
     replace BK160 := Aside0.mk (blk_below (blk_later BK160.out) hb)
     replace BK161 := Aside0.mk (blk_below (blk_later BK161.out) hb)
     replace HB := Aside0.mk (below_step (by repeat (first | (with_reducible first | exact HB.out | apply below_alloc | apply pw_below_drewN | apply below_drew1 | refine below_set ?_ GE159.out | refine below_set ?_ GE160.out | refine below_set ?_ GE161.out) | exact HB.out)) hb)
     (try clear hb)
     (try clear hb2)
     (try clear hk)
     (try clear hi)
     (try clear ho0)
     refine hK.out _ _ (by and_intros <;> exact (blk_cell BK159.out _).trans rfl) (fun hHeld => ?_)
     clear hK K
     refine norm_ (a' := ?_) ?_ ?_
     rotate_left
     ·show Act.put _ (some 17) _ = _
      simp only [Act.put, List.setIfInBounds_toArray, List.set_cons_zero, List.set_cons_succ, i64_w, i32_w]
      rfl
     refine one_ (i := 13) (N := some 4) #[true, true, true, true, true, true, true, true, true, true, true, true, true, true, false] rfl rfl (one_of HT_.out (by kernel_rfl)) (by decide) (fun K hK => ?_)
     refine box_step ?hg (N := 4) ?hd (cs := #[.string (⟨#[]⟩ : ByteArray), .string (⟨#[]⟩ : ByteArray), .int .i64 0, .string (⟨#[]⟩ : ByteArray), .string (⟨#[]⟩ : ByteArray), .int .i64 0, .string (⟨#[]⟩ : ByteArray), .string (⟨#[]⟩ : ByteArray), .string (⟨#[]⟩ : ByteArray), .slice none 0 0, .bool false]) (t := 48) ?hr ?_; (case hd => rfl); (case hg => rfl); (case hr => first | (go_simp; done) | (go_simp; rfl))
     intro gb177 hg w10 hbox hb
     have BK177 := Aside0.mk (hbox)
     have GW177 := Aside0.mk ((by rw [hg]; exact (below_size (by repeat (first | (with_reducible first | exact HB.out | apply below_alloc | apply pw_below_drewN | apply below_drew1 | refine below_set ?_ GE159.out | refine below_set ?_ GE160.out | refine below_set ?_ GE161.out) | exact HB.out))) : w.heap.size ≤ gb177))
     have GE177 := Aside0.mk ((by rw [hg]; exact (below_size (by repeat (first | (with_reducible first | exact HB.out | apply below_alloc | apply pw_below_drewN | apply below_drew1 | refine below_set ?_ GE159.out | refine below_set ?_ GE160.out | refine below_set ?_ GE161.out) | exact HB.out))) : w.heap.size ≤ gb177))
     have NB159_177 := Aside0.mk ((by rw [hg]; exact Nat.ne_of_lt (blk_lt (blk_later BK159.out)) : gb159 ≠ gb177))
     have NB177_159 := Aside0.mk ((by rw [hg]; exact Nat.ne_of_gt (blk_lt (blk_later BK159.out)) : gb177 ≠ gb159))
     have NB160_177 := Aside0.mk ((by rw [hg]; exact Nat.ne_of_lt (blk_lt (blk_later BK160.out)) : gb160 ≠ gb177))
     have NB177_160 := Aside0.mk ((by rw [hg]; exact Nat.ne_of_gt (blk_lt (blk_later BK160.out)) : gb177 ≠ gb160))
     have NB161_177 := Aside0.mk ((by rw [hg]; exact Nat.ne_of_lt (blk_lt (blk_later BK161.out)) : gb161 ≠ gb177))
     have NB177_161 := Aside0.mk ((by rw [hg]; exact Nat.ne_of_gt (blk_lt (blk_later BK161.out)) : gb177 ≠ gb161))
     replace HO175 := Aside0.mk (Kd.R_below (R_later HO175.out) hb)
     replace BK159 := Aside0.mk (blk_below (blk_later BK159.out) hb)
     replace BK160 := Aside0.mk (blk_below (blk_later BK160.out) hb)
     replace BK161 := Aside0.mk (blk_below (blk_later BK161.out) hb)
     replace HB := Aside0.mk (below_step (by repeat (first | (with_reducible first | exact HB.out | apply below_alloc | apply pw_below_drewN | apply below_drew1 | refine below_set ?_ GE159.out | refine below_set ?_ GE160.out | refine below_set ?_ GE161.out) | exact HB.out)) hb)
     clear hb hbox hg
     refine hK.out _ _ (by and_intros <;> exact (blk_cell BK159.out _).trans rfl) (fun hHeld => ?_)
     clear hK K
     refine norm_ (a' := ?_) ?_ ?_
     rotate_left
     ·show Act.put _ (some 4) _ = _
      simp only [Act.put, List.setIfInBounds_toArray, List.set_cons_zero, List.set_cons_succ, i64_w, i32_w]
      rfl
     exact norm_ (by simp only [putAll, Act.put, List.setIfInBounds_toArray, List.set_cons_zero, List.set_cons_succ]) (hCont (v174, gb177) _ ⟨hHeld, (by (with_reducible repeat (first | apply Kd.R_alloc | apply Kd.R_drewN | apply Kd.R_drew)); exact Kd.R_mono HO175.out (fun _ hk => hk.1)), (blk_later BK159.out), (blk_later BK160.out), (blk_later BK161.out), (blk_later BK177.out), GW177.out, GE177.out, NB159_177.out, NB177_159.out, NB160_177.out, NB177_160.out, NB161_177.out, NB177_161.out, (by repeat (first | (with_reducible first | exact HB.out | apply below_alloc | apply pw_below_drewN | apply below_drew1 | refine below_set ?_ GE159.out | refine below_set ?_ GE160.out | refine below_set ?_ GE161.out | refine below_set ?_ GE177.out) | exact HB.out))⟩)
    skip
    refine box_step ?hg (N := 4) ?hd (cs := #[.string (⟨#[]⟩ : ByteArray), .string (⟨#[]⟩ : ByteArray), .int .i64 0, .string (⟨#[]⟩ : ByteArray), .string (⟨#[]⟩ : ByteArray), .int .i64 0, .string (⟨#[]⟩ : ByteArray), .string (⟨#[]⟩ : ByteArray), .string (⟨#[]⟩ : ByteArray), .slice none 0 0, .bool false]) (t := 48) ?hr ?_; (case hd => rfl); (case hg => rfl); (case hr => first | (go_simp; done) | (go_simp; rfl))
    intro gb177 hg w9 hbox hb
    have BK177 := Aside0.mk (hbox)
    have GW177 := Aside0.mk ((by rw [hg]; exact (below_size (by repeat (first | (with_reducible first | exact HB.out | apply below_alloc | apply pw_below_drewN | apply below_drew1 | refine below_set ?_ GE159.out | refine below_set ?_ GE160.out | refine below_set ?_ GE161.out) | exact HB.out))) : w.heap.size ≤ gb177))
    have GE177 := Aside0.mk ((by rw [hg]; exact (below_size (by repeat (first | (with_reducible first | exact HB.out | apply below_alloc | apply pw_below_drewN | apply below_drew1 | refine below_set ?_ GE159.out | refine below_set ?_ GE160.out | refine below_set ?_ GE161.out) | exact HB.out))) : w.heap.size ≤ gb177))
    have NB159_177 := Aside0.mk ((by rw [hg]; exact Nat.ne_of_lt (blk_lt (blk_later BK159.out)) : gb159 ≠ gb177))
    have NB177_159 := Aside0.mk ((by rw [hg]; exact Nat.ne_of_gt (blk_lt (blk_later BK159.out)) : gb177 ≠ gb159))
    have NB160_177 := Aside0.mk ((by rw [hg]; exact Nat.ne_of_lt (blk_lt (blk_later BK160.out)) : gb160 ≠ gb177))
    have NB177_160 := Aside0.mk ((by rw [hg]; exact Nat.ne_of_gt (blk_lt (blk_later BK160.out)) : gb177 ≠ gb160))
    have NB161_177 := Aside0.mk ((by rw [hg]; exact Nat.ne_of_lt (blk_lt (blk_later BK161.out)) : gb161 ≠ gb177))
    have NB177_161 := Aside0.mk ((by rw [hg]; exact Nat.ne_of_gt (blk_lt (blk_later BK161.out)) : gb177 ≠ gb161))
    replace BK159 := Aside0.mk (blk_below (blk_later BK159.out) hb)
    replace BK160 := Aside0.mk (blk_below (blk_later BK160.out) hb)
    replace BK161 := Aside0.mk (blk_below (blk_later BK161.out) hb)
    replace HB := Aside0.mk (below_step (by repeat (first | (with_reducible first | exact HB.out | apply below_alloc | apply pw_below_drewN | apply below_drew1 | refine below_set ?_ GE159.out | refine below_set ?_ GE160.out | refine below_set ?_ GE161.out) | exact HB.out)) hb)
    clear hb hbox hg
    refine hK.out _ _ (by and_intros <;> exact (blk_cell BK159.out _).trans rfl) (fun hHeld => ?_)
    clear hK K
    refine norm_ (a' := ?_) ?_ ?_
    rotate_left
    ·show Act.put _ (some 4) _ = _
     simp only [Act.put, List.setIfInBounds_toArray, List.set_cons_zero, List.set_cons_succ, i64_w, i32_w]
     rfl
    refine one_ (i := 12) (N := some 17) #[true, true, true, true, true, true, true, true, true, true, true, true, true, true, false] rfl rfl (one_of HT_.out (by kernel_rfl)) (by decide) (fun K hK => ?_)
    refine goes_ Tryd.func44 (by kernel_rfl) rfl #[.string t162, .string t163, .string a0_2, .slice A0_3 l0_3.length c0_3, .bool a0_4] (by rfl) rfl rfl (by (try simp only [List.map_toArray, List.map_cons, List.map_nil]); first | done | rfl) ?_
    with_reducible refine (r17_Make.calls k t162 t163 a0_2 _ _ l0_3 a0_4 t164 t165 t166 t167 t168 t169 t170 t171 t172 t173 t176 _ ?side1 ?side2 A4.out).mono ?_
    (case side1 => exact C_later (Kd.C_below HR0_3.out HB.out))
    (case side2 => exact HC0_3.out)
    rintro e w10 ⟨v174, rfl, ho0, hb⟩
    refine ⟨_, rfl, ?_⟩
    have HO175 := Aside0.mk (Kd.R_lower (Kd.R_newM (M := fun k_ => (w.heap.size ≤ k_)) ho0 (below_size (by repeat (first | (with_reducible first | exact HB.out | apply below_alloc | apply pw_below_drewN | apply below_drew1 | refine below_set ?_ GE159.out | refine below_set ?_ GE160.out | refine below_set ?_ GE161.out | refine below_set ?_ GE177.out) | exact HB.out))) (fun k_ h_ => h_)) (below_size (by repeat (first | (with_reducible first | exact HB.out | apply below_alloc | apply pw_below_drewN | apply below_drew1 | refine below_set ?_ GE159.out | refine below_set ?_ GE160.out | refine below_set ?_ GE161.out | refine below_set ?_ GE177.out) | exact HB.out))))
    replace BK159 := Aside0.mk (blk_below (blk_later BK159.out) hb)
    replace BK160 := Aside0.mk (blk_below (blk_later BK160.out) hb)
    replace BK161 := Aside0.mk (blk_below (blk_later BK161.out) hb)
    replace BK177 := Aside0.mk (blk_below (blk_later BK177.out) hb)
    replace HB := Aside0.mk (below_step (by repeat (first | (with_reducible first | exact HB.out | apply below_alloc | apply pw_below_drewN | apply below_drew1 | refine below_set ?_ GE159.out | refine below_set ?_ GE160.out | refine below_set ?_ GE161.out | refine below_set ?_ GE177.out) | exact HB.out)) hb)
    (try clear hb)
    (try clear hb2)
    (try clear hk)
    (try clear hi)
    (try clear ho0)
    refine hK.out _ _ (by and_intros <;> exact (blk_cell BK159.out _).trans rfl) (fun hHeld => ?_)
    clear hK K
    refine norm_ (a' := ?_) ?_ ?_
    rotate_left
    ·show Act.put _ (some 17) _ = _
     simp only [Act.put, List.setIfInBounds_toArray, List.set_cons_zero, List.set_cons_succ, i64_w, i32_w]
     rfl
    exact norm_ (by simp only [putAll, Act.put, List.setIfInBounds_toArray, List.set_cons_zero, List.set_cons_succ]) (hCont (v174, gb177) _ ⟨hHeld, (by (with_reducible repeat (first | apply Kd.R_alloc | apply Kd.R_drewN | apply Kd.R_drew)); exact Kd.R_mono HO175.out (fun _ hk => hk.1)), (blk_later BK159.out), (blk_later BK160.out), (blk_later BK161.out), (blk_later BK177.out), GW177.out, GE177.out, NB159_177.out, NB177_159.out, NB160_177.out, NB177_160.out, NB161_177.out, NB177_161.out, (by repeat (first | (with_reducible first | exact HB.out | apply below_alloc | apply pw_below_drewN | apply below_drew1 | refine below_set ?_ GE159.out | refine below_set ?_ GE160.out | refine below_set ?_ GE161.out | refine below_set ?_ GE177.out) | exact HB.out))⟩)
   skip
   refine box_step ?hg (N := 4) ?hd (cs := #[.string (⟨#[]⟩ : ByteArray), .string (⟨#[]⟩ : ByteArray), .int .i64 0, .string (⟨#[]⟩ : ByteArray), .string (⟨#[]⟩ : ByteArray), .int .i64 0, .string (⟨#[]⟩ : ByteArray), .string (⟨#[]⟩ : ByteArray), .string (⟨#[]⟩ : ByteArray), .slice none 0 0, .bool false]) (t := 48) ?hr ?_; (case hd => rfl); (case hg => rfl); (case hr => first | (go_simp; done) | (go_simp; rfl))
   intro gb177 hg w9 hbox hb
   have BK177 := Aside0.mk (hbox)
   have GW177 := Aside0.mk ((by rw [hg]; exact (below_size (by repeat (first | (with_reducible first | exact HB.out | apply below_alloc | apply pw_below_drewN | apply below_drew1 | refine below_set ?_ GE159.out | refine below_set ?_ GE160.out | refine below_set ?_ GE161.out) | exact HB.out))) : w.heap.size ≤ gb177))
   have GE177 := Aside0.mk ((by rw [hg]; exact (below_size (by repeat (first | (with_reducible first | exact HB.out | apply below_alloc | apply pw_below_drewN | apply below_drew1 | refine below_set ?_ GE159.out | refine below_set ?_ GE160.out | refine below_set ?_ GE161.out) | exact HB.out))) : w.heap.size ≤ gb177))
   have NB159_177 := Aside0.mk ((by rw [hg]; exact Nat.ne_of_lt (blk_lt (blk_later BK159.out)) : gb159 ≠ gb177))
   have NB177_159 := Aside0.mk ((by rw [hg]; exact Nat.ne_of_gt (blk_lt (blk_later BK159.out)) : gb177 ≠ gb159))
   have NB160_177 := Aside0.mk ((by rw [hg]; exact Nat.ne_of_lt (blk_lt (blk_later BK160.out)) : gb160 ≠ gb177))
   have NB177_160 := Aside0.mk ((by rw [hg]; exact Nat.ne_of_gt (blk_lt (blk_later BK160.out)) : gb177 ≠ gb160))
   have NB161_177 := Aside0.mk ((by rw [hg]; exact Nat.ne_of_lt (blk_lt (blk_later BK161.out)) : gb161 ≠ gb177))
   have NB177_161 := Aside0.mk ((by rw [hg]; exact Nat.ne_of_gt (blk_lt (blk_later BK161.out)) : gb177 ≠ gb161))
   replace BK159 := Aside0.mk (blk_below (blk_later BK159.out) hb)
   replace BK160 := Aside0.mk (blk_below (blk_later BK160.out) hb)
   replace BK161 := Aside0.mk (blk_below (blk_later BK161.out) hb)
   replace HB := Aside0.mk (below_step (by repeat (first | (with_reducible first | exact HB.out | apply below_alloc | apply pw_below_drewN | apply below_drew1 | refine below_set ?_ GE159.out | refine below_set ?_ GE160.out | refine below_set ?_ GE161.out) | exact HB.out)) hb)
   clear hb hbox hg
   refine hK.out _ _ (by and_intros <;> exact (blk_cell BK159.out _).trans rfl) (fun hHeld => ?_)
   clear hK K
   refine norm_ (a' := ?_) ?_ ?_
   rotate_left
   ·show Act.put _ (some 4) _ = _
    simp only [Act.put, List.setIfInBounds_toArray, List.set_cons_zero, List.set_cons_succ, i64_w, i32_w]
    rfl
   refine one_ (i := 5) (N := some 10) #[true, true, true, true, true, true, true, true, true, true, true, true, false, true, false] rfl rfl (one_of HT_.out (by kernel_rfl)) (by decide) (fun K hK => ?_)
   refine goes_ Tryd.func8 (by kernel_rfl) rfl #[.string a0_1, .int .i64 100] (by rfl) rfl rfl (by (try simp only [List.map_toArray, List.map_cons, List.map_nil]); first | done | rfl) ?_
   with_reducible refine (r01_Few.calls a0_1 100 t163 _ A3.out).mono ?_
   rintro e w' ⟨rfl, ⟨nd, rfl⟩⟩
   refine ⟨_, rfl, ?_⟩
   refine hK.out _ _ (by and_intros <;> exact (blk_cell BK159.out _).trans rfl) (fun hHeld => ?_)
   clear hK K
   refine norm_ (a' := ?_) ?_ ?_
   rotate_left
   ·show Act.put _ (some 10) _ = _
    simp only [Act.put, List.setIfInBounds_toArray, List.set_cons_zero, List.set_cons_succ, i64_w, i32_w]
    rfl
   refine one_ (i := 12) (N := some 17) #[true, true, true, true, true, true, true, true, true, true, true, true, true, true, false] rfl rfl (one_of HT_.out (by kernel_rfl)) (by decide) (fun K hK => ?_)
   refine goes_ Tryd.func44 (by kernel_rfl) rfl #[.string t162, .string t163, .string a0_2, .slice A0_3 l0_3.length c0_3, .bool a0_4] (by rfl) rfl rfl (by (try simp only [List.map_toArray, List.map_cons, List.map_nil]); first | done | rfl) ?_
   with_reducible refine (r17_Make.calls k t162 t163 a0_2 _ _ l0_3 a0_4 t164 t165 t166 t167 t168 t169 t170 t171 t172 t173 t176 _ ?side1 ?side2 A4.out).mono ?_
   (case side1 => repeat (first | exact (Kd.C_below HR0_3.out (by repeat (first | (with_reducible first | exact HB.out | apply below_alloc | apply pw_below_drewN | apply below_drew1 | refine below_set ?_ GE159.out | refine below_set ?_ GE160.out | refine below_set ?_ GE161.out | refine below_set ?_ GE177.out) | exact HB.out))) | (with_reducible refine Kd.C_alloc ?_ _) | (with_reducible refine Kd.C_drewN ?_ _) | (with_reducible refine Kd.C_drew ?_)))
   (case side2 => exact HC0_3.out)
   rintro e w10 ⟨v174, rfl, ho0, hb⟩
   refine ⟨_, rfl, ?_⟩
   have HO175 := Aside0.mk (Kd.R_lower (Kd.R_newM (M := fun k_ => (w.heap.size ≤ k_)) ho0 (below_size (by repeat (first | (with_reducible first | exact HB.out | apply below_alloc | apply pw_below_drewN | apply below_drew1 | refine below_set ?_ GE159.out | refine below_set ?_ GE160.out | refine below_set ?_ GE161.out | refine below_set ?_ GE177.out) | exact HB.out))) (fun k_ h_ => h_)) (below_size (by repeat (first | (with_reducible first | exact HB.out | apply below_alloc | apply pw_below_drewN | apply below_drew1 | refine below_set ?_ GE159.out | refine below_set ?_ GE160.out | refine below_set ?_ GE161.out | refine below_set ?_ GE177.out) | exact HB.out))))
   replace BK159 := Aside0.mk (blk_below (blk_later BK159.out) hb)
   replace BK160 := Aside0.mk (blk_below (blk_later BK160.out) hb)
   replace BK161 := Aside0.mk (blk_below (blk_later BK161.out) hb)
   replace BK177 := Aside0.mk (blk_below (blk_later BK177.out) hb)
   replace HB := Aside0.mk (below_step (by repeat (first | (with_reducible first | exact HB.out | apply below_alloc | apply pw_below_drewN | apply below_drew1 | refine below_set ?_ GE159.out | refine below_set ?_ GE160.out | refine below_set ?_ GE161.out | refine below_set ?_ GE177.out) | exact HB.out)) hb)
   (try clear hb)
   (try clear hb2)
   (try clear hk)
   (try clear hi)
   (try clear ho0)
   refine hK.out _ _ (by and_intros <;> exact (blk_cell BK159.out _).trans rfl) (fun hHeld => ?_)
   clear hK K
   refine norm_ (a' := ?_) ?_ ?_
   rotate_left
   ·show Act.put _ (some 17) _ = _
    simp only [Act.put, List.setIfInBounds_toArray, List.set_cons_zero, List.set_cons_succ, i64_w, i32_w]
    rfl
   exact norm_ (by simp only [putAll, Act.put, List.setIfInBounds_toArray, List.set_cons_zero, List.set_cons_succ]) (hCont (v174, gb177) _ ⟨hHeld, (by (with_reducible repeat (first | apply Kd.R_alloc | apply Kd.R_drewN | apply Kd.R_drew)); exact Kd.R_mono HO175.out (fun _ hk => hk.1)), (blk_later BK159.out), (blk_later BK160.out), (blk_later BK161.out), (blk_later BK177.out), GW177.out, GE177.out, NB159_177.out, NB177_159.out, NB160_177.out, NB177_160.out, NB161_177.out, NB177_161.out, (by repeat (first | (with_reducible first | exact HB.out | apply below_alloc | apply pw_below_drewN | apply below_drew1 | refine below_set ?_ GE159.out | refine below_set ?_ GE160.out | refine below_set ?_ GE161.out | refine below_set ?_ GE177.out) | exact HB.out))⟩)
  skip
  refine box_step ?hg (N := 4) ?hd (cs := #[.string (⟨#[]⟩ : ByteArray), .string (⟨#[]⟩ : ByteArray), .int .i64 0, .string (⟨#[]⟩ : ByteArray), .string (⟨#[]⟩ : ByteArray), .int .i64 0, .string (⟨#[]⟩ : ByteArray), .string (⟨#[]⟩ : ByteArray), .string (⟨#[]⟩ : ByteArray), .slice none 0 0, .bool false]) (t := 48) ?hr ?_; (case hd => rfl); (case hg => rfl); (case hr => first | (go_simp; done) | (go_simp; rfl))
  intro gb177 hg w9 hbox hb
  have BK177 := Aside0.mk (hbox)
  have GW177 := Aside0.mk ((by rw [hg]; exact (below_size (by repeat (first | (with_reducible first | exact HB.out | apply below_alloc | apply pw_below_drewN | apply below_drew1 | refine below_set ?_ GE159.out | refine below_set ?_ GE160.out | refine below_set ?_ GE161.out) | exact HB.out))) : w.heap.size ≤ gb177))
  have GE177 := Aside0.mk ((by rw [hg]; exact (below_size (by repeat (first | (with_reducible first | exact HB.out | apply below_alloc | apply pw_below_drewN | apply below_drew1 | refine below_set ?_ GE159.out | refine below_set ?_ GE160.out | refine below_set ?_ GE161.out) | exact HB.out))) : w.heap.size ≤ gb177))
  have NB159_177 := Aside0.mk ((by rw [hg]; exact Nat.ne_of_lt (blk_lt (blk_later BK159.out)) : gb159 ≠ gb177))
  have NB177_159 := Aside0.mk ((by rw [hg]; exact Nat.ne_of_gt (blk_lt (blk_later BK159.out)) : gb177 ≠ gb159))
  have NB160_177 := Aside0.mk ((by rw [hg]; exact Nat.ne_of_lt (blk_lt (blk_later BK160.out)) : gb160 ≠ gb177))
  have NB177_160 := Aside0.mk ((by rw [hg]; exact Nat.ne_of_gt (blk_lt (blk_later BK160.out)) : gb177 ≠ gb160))
  have NB161_177 := Aside0.mk ((by rw [hg]; exact Nat.ne_of_lt (blk_lt (blk_later BK161.out)) : gb161 ≠ gb177))
  have NB177_161 := Aside0.mk ((by rw [hg]; exact Nat.ne_of_gt (blk_lt (blk_later BK161.out)) : gb177 ≠ gb161))
  replace BK159 := Aside0.mk (blk_below (blk_later BK159.out) hb)
  replace BK160 := Aside0.mk (blk_below (blk_later BK160.out) hb)
  replace BK161 := Aside0.mk (blk_below (blk_later BK161.out) hb)
  replace HB := Aside0.mk (below_step (by repeat (first | (with_reducible first | exact HB.out | apply below_alloc | apply pw_below_drewN | apply below_drew1 | refine below_set ?_ GE159.out | refine below_set ?_ GE160.out | refine below_set ?_ GE161.out) | exact HB.out)) hb)
  clear hb hbox hg
  refine hK.out _ _ (by and_intros <;> exact (blk_cell BK159.out _).trans rfl) (fun hHeld => ?_)
  clear hK K
  refine norm_ (a' := ?_) ?_ ?_
  rotate_left
  ·show Act.put _ (some 4) _ = _
   simp only [Act.put, List.setIfInBounds_toArray, List.set_cons_zero, List.set_cons_succ, i64_w, i32_w]
   rfl
  refine one_ (i := 2) (N := some 7) #[true, true, true, true, true, false, true, true, true, true, true, true, false, true, false] rfl rfl (one_of HT_.out (by kernel_rfl)) (by decide) (fun K hK => ?_)
  refine goes_ Tryd.func8 (by kernel_rfl) rfl #[.string a0_0, .int .i64 100] (by rfl) rfl rfl (by (try simp only [List.map_toArray, List.map_cons, List.map_nil]); first | done | rfl) ?_
  with_reducible refine (r01_Few.calls a0_0 100 t162 _ A2.out).mono ?_
  rintro e w' ⟨rfl, ⟨nd, rfl⟩⟩
  refine ⟨_, rfl, ?_⟩
  refine hK.out _ _ (by and_intros <;> exact (blk_cell BK159.out _).trans rfl) (fun hHeld => ?_)
  clear hK K
  refine norm_ (a' := ?_) ?_ ?_
  rotate_left
  ·show Act.put _ (some 7) _ = _
   simp only [Act.put, List.setIfInBounds_toArray, List.set_cons_zero, List.set_cons_succ, i64_w, i32_w]
   rfl
  refine one_ (i := 5) (N := some 10) #[true, true, true, true, true, true, true, true, true, true, true, true, false, true, false] rfl rfl (one_of HT_.out (by kernel_rfl)) (by decide) (fun K hK => ?_)
  refine goes_ Tryd.func8 (by kernel_rfl) rfl #[.string a0_1, .int .i64 100] (by rfl) rfl rfl (by (try simp only [List.map_toArray, List.map_cons, List.map_nil]); first | done | rfl) ?_
  with_reducible refine (r01_Few.calls a0_1 100 t163 _ A3.out).mono ?_
  rintro e w' ⟨rfl, ⟨nd, rfl⟩⟩
  refine ⟨_, rfl, ?_⟩
  refine hK.out _ _ (by and_intros <;> exact (blk_cell BK159.out _).trans rfl) (fun hHeld => ?_)
  clear hK K
  refine norm_ (a' := ?_) ?_ ?_
  rotate_left
  ·show Act.put _ (some 10) _ = _
   simp only [Act.put, List.setIfInBounds_toArray, List.set_cons_zero, List.set_cons_succ, i64_w, i32_w]
   rfl
  refine one_ (i := 12) (N := some 17) #[true, true, true, true, true, true, true, true, true, true, true, true, true, true, false] rfl rfl (one_of HT_.out (by kernel_rfl)) (by decide) (fun K hK => ?_)
  refine goes_ Tryd.func44 (by kernel_rfl) rfl #[.string t162, .string t163, .string a0_2, .slice A0_3 l0_3.length c0_3, .bool a0_4] (by rfl) rfl rfl (by (try simp only [List.map_toArray, List.map_cons, List.map_nil]); first | done | rfl) ?_
  with_reducible refine (r17_Make.calls k t162 t163 a0_2 _ _ l0_3 a0_4 t164 t165 t166 t167 t168 t169 t170 t171 t172 t173 t176 _ ?side1 ?side2 A4.out).mono ?_
  (case side1 => repeat (first | exact (Kd.C_below HR0_3.out (by repeat (first | (with_reducible first | exact HB.out | apply below_alloc | apply pw_below_drewN | apply below_drew1 | refine below_set ?_ GE159.out | refine below_set ?_ GE160.out | refine below_set ?_ GE161.out | refine below_set ?_ GE177.out) | exact HB.out))) | (with_reducible refine Kd.C_alloc ?_ _) | (with_reducible refine Kd.C_drewN ?_ _) | (with_reducible refine Kd.C_drew ?_)))
  (case side2 => exact HC0_3.out)
  rintro e w10 ⟨v174, rfl, ho0, hb⟩
  refine ⟨_, rfl, ?_⟩
  have HO175 := Aside0.mk (Kd.R_lower (Kd.R_newM (M := fun k_ => (w.heap.size ≤ k_)) ho0 (below_size (by repeat (first | (with_reducible first | exact HB.out | apply below_alloc | apply pw_below_drewN | apply below_drew1 | refine below_set ?_ GE159.out | refine below_set ?_ GE160.out | refine below_set ?_ GE161.out | refine below_set ?_ GE177.out) | exact HB.out))) (fun k_ h_ => h_)) (below_size (by repeat (first | (with_reducible first | exact HB.out | apply below_alloc | apply pw_below_drewN | apply below_drew1 | refine below_set ?_ GE159.out | refine below_set ?_ GE160.out | refine below_set ?_ GE161.out | refine below_set ?_ GE177.out) | exact HB.out))))
  replace BK159 := Aside0.mk (blk_below (blk_later BK159.out) hb)
  replace BK160 := Aside0.mk (blk_below (blk_later BK160.out) hb)
  replace BK161 := Aside0.mk (blk_below (blk_later BK161.out) hb)
  replace BK177 := Aside0.mk (blk_below (blk_later BK177.out) hb)
  replace HB := Aside0.mk (below_step (by repeat (first | (with_reducible first | exact HB.out | apply below_alloc | apply pw_below_drewN | apply below_drew1 | refine below_set ?_ GE159.out | refine below_set ?_ GE160.out | refine below_set ?_ GE161.out | refine below_set ?_ GE177.out) | exact HB.out)) hb)
  (try clear hb)
  (try clear hb2)
  (try clear hk)
  (try clear hi)
  (try clear ho0)
  refine hK.out _ _ (by and_intros <;> exact (blk_cell BK159.out _).trans rfl) (fun hHeld => ?_)
  clear hK K
  refine norm_ (a' := ?_) ?_ ?_
  rotate_left
  ·show Act.put _ (some 17) _ = _
   simp only [Act.put, List.setIfInBounds_toArray, List.set_cons_zero, List.set_cons_succ, i64_w, i32_w]
   rfl
  exact norm_ (by simp only [putAll, Act.put, List.setIfInBounds_toArray, List.set_cons_zero, List.set_cons_succ]) (hCont (v174, gb177) _ ⟨hHeld, (by (with_reducible repeat (first | apply Kd.R_alloc | apply Kd.R_drewN | apply Kd.R_drew)); exact Kd.R_mono HO175.out (fun _ hk => hk.1)), (blk_later BK159.out), (blk_later BK160.out), (blk_later BK161.out), (blk_later BK177.out), GW177.out, GE177.out, NB159_177.out, NB177_159.out, NB160_177.out, NB177_160.out, NB161_177.out, NB177_161.out, (by repeat (first | (with_reducible first | exact HB.out | apply below_alloc | apply pw_below_drewN | apply below_drew1 | refine below_set ?_ GE159.out | refine below_set ?_ GE160.out | refine below_set ?_ GE161.out | refine below_set ?_ GE177.out) | exact HB.out))⟩)
 rintro ⟨v174, gb177⟩ w11 ⟨hS_, h0_, h1_, h2_, h3_, h4_, h5_, h6_, h7_, h8_, h9_, h10_, h11_, h12_, h13_⟩
 have n0_ : Aside0 (Kd.R Kd.string 9 w11 w.heap.size (fun k_ => (w.heap.size ≤ k_)) v174 t173) := ⟨h0_⟩
 have n1_ : Aside0 (w11.heap[gb159]? = some (.cells #[.string a0_0, .string a0_1, .string a0_2, .slice A0_3 l0_3.length c0_3, .bool a0_4] 41 (0, 0))) := ⟨h1_⟩
 have n2_ : Aside0 (w11.heap[gb160]? = some (.cells #[.string (⟨#[]⟩ : ByteArray), .string (⟨#[]⟩ : ByteArray), .int .i64 0, .string (⟨#[]⟩ : ByteArray), .string (⟨#[]⟩ : ByteArray), .int .i64 0, .string (⟨#[]⟩ : ByteArray), .string (⟨#[]⟩ : ByteArray), .string (⟨#[]⟩ : ByteArray), .slice none 0 0, .bool false] 47 (0, 0))) := ⟨h2_⟩
 have n3_ : Aside0 (w11.heap[gb161]? = some (.cells #[.string (⟨#[]⟩ : ByteArray), .string (⟨#[]⟩ : ByteArray), .int .i64 0, .string (⟨#[]⟩ : ByteArray), .string (⟨#[]⟩ : ByteArray), .int .i64 0, .string (⟨#[]⟩ : ByteArray), .string (⟨#[]⟩ : ByteArray), .string (⟨#[]⟩ : ByteArray), .slice none 0 0, .bool false] 48 (0, 0))) := ⟨h3_⟩
 have n4_ : Aside0 (w11.heap[gb177]? = some (.cells #[.string (⟨#[]⟩ : ByteArray), .string (⟨#[]⟩ : ByteArray), .int .i64 0, .string (⟨#[]⟩ : ByteArray), .string (⟨#[]⟩ : ByteArray), .int .i64 0, .string (⟨#[]⟩ : ByteArray), .string (⟨#[]⟩ : ByteArray), .string (⟨#[]⟩ : ByteArray), .slice none 0 0, .bool false] 48 (0, 0))) := ⟨h4_⟩
 have n5_ : Aside0 (w.heap.size ≤ gb177) := ⟨h5_⟩
 have n6_ : Aside0 (w.heap.size ≤ gb177) := ⟨h6_⟩
 have n7_ : Aside0 (gb159 ≠ gb177) := ⟨h7_⟩
 have n8_ : Aside0 (gb177 ≠ gb159) := ⟨h8_⟩
 have n9_ : Aside0 (gb160 ≠ gb177) := ⟨h9_⟩
 have n10_ : Aside0 (gb177 ≠ gb160) := ⟨h10_⟩
 have n11_ : Aside0 (gb161 ≠ gb177) := ⟨h11_⟩
 have n12_ : Aside0 (gb177 ≠ gb161) := ⟨h12_⟩
 have n13_ : Aside0 (Below w.heap.size w w11) := ⟨h13_⟩
 clear BK159
 clear BK160
 clear BK161
 clear HB
 clear h0_ h1_ h2_ h3_ h4_ h5_ h6_ h7_ h8_ h9_ h10_ h11_ h12_ h13_
 have HO175 := n0_
 have BK159 := n1_
 have BK160 := n2_
 have BK161 := n3_
 have BK177 := n4_
 have GW177 := n5_
 have GE177 := n6_
 have NB159_177 := n7_
 have NB177_159 := n8_
 have NB160_177 := n9_
 have NB177_160 := n10_
 have NB161_177 := n11_
 have NB177_161 := n12_
 have HB := n13_
 clear n0_ n1_ n2_ n3_ n4_ n5_ n6_ n7_ n8_ n9_ n10_ n11_ n12_ n13_
 have hHeld : w11.cell? ⟨gb159, 0, none⟩ = some (.string a0_0) ∧ w11.cell? ⟨gb159, 1, none⟩ = some (.string a0_1) ∧ w11.cell? ⟨gb159, 2, none⟩ = some (.string a0_2) ∧ w11.cell? ⟨gb159, 3, none⟩ = some (.slice A0_3 l0_3.length c0_3) ∧ w11.cell? ⟨gb159, 4, none⟩ = some (.bool a0_4) := hS_
 obtain ⟨Ao21, co21, eo21⟩ := Kd.R_slice HO175.out
 (first | subst eo21 | (injection eo21 with f1_ f2_ f3_; have f4_ := f1_.symm; have f5_ := f3_.symm; clear f1_ f2_ f3_; subst f4_; subst f5_))
 refine norm_ (a' := ?_) ?_ ?_
 rotate_left
 ·simp only [putAll, Act.put, List.setIfInBounds_toArray, List.set_cons_zero, List.set_cons_succ]
  rfl
 refine one_ (i := 14) (N := none) #[true, true, true, true, true, true, true, true, true, true, true, true, true, true, true] rfl rfl (one_of HT_.out (by kernel_rfl)) (by decide) (fun K hK => ?_)
 obtain ⟨w24, hw_⟩ : ∃ x, x = w11.setRow gb177 #[.string t164, .string t165, .int .i64 t166, .string t167, .string t168, .int .i64 t169, .string t170, .string t171, .string t172, .slice Ao21 t173.length co21, .bool t176] := ⟨_, rfl⟩
 have mb_ : w24.heap[gb177]? = some (.cells #[.string t164, .string t165, .int .i64 t166, .string t167, .string t168, .int .i64 t169, .string t170, .string t171, .string t172, .slice Ao21 t173.length co21, .bool t176] 48 (0, 0)) := by rw [hw_]; exact row_new BK177.out
 have mn_ : ∀ k, k ≠ gb177 → w24.heap[k]? = w11.heap[k]? := fun k hk => by rw [hw_]; exact row_far hk
 have n0_ := Aside0.mk (Kd.R_mono (Kd.R_step (Kd.R_types HO175.out BK177.out (by decide)) (fun k ho _ => mn_ k ho.2)) (fun _ hk => hk.1))
 have n1_ := Aside0.mk ((mn_ gb159 NB159_177.out).trans BK159.out)
 have n2_ := Aside0.mk ((mn_ gb160 NB160_177.out).trans BK160.out)
 have n3_ := Aside0.mk ((mn_ gb161 NB161_177.out).trans BK161.out)
 have n4_ := Aside0.mk (mb_)
 have n5_ : Aside0 (Below w.heap.size w w24) := ⟨by rw [hw_]; exact below_row HB.out GE177.out _⟩
 refine skip_ (w1 := w24) (by rfl) rfl (by rw [hw_]; exact run_store_row rfl rfl rfl BK177.out (by kernel_rfl) rfl (by simp [Value.oneCell'])) ?_
 clear hw_ mb_ mn_ BK159 BK160 BK161 BK177 HO175 HB
 refine hK.out _ _ ⟨(blk_cell n1_.out 0).trans rfl, (blk_cell n1_.out 1).trans rfl, (blk_cell n1_.out 2).trans rfl, (blk_cell n1_.out 3).trans rfl, (blk_cell n1_.out 4).trans rfl⟩ (fun hHeld => ?_)
 clear hK K
 refine done_ (done_of HT_.out (by kernel_rfl)) ?_
 try go_wp2
 have HO175 := n0_
 have BK159 := n1_
 have BK160 := n2_
 have BK161 := n3_
 have BK177 := n4_
 have HB := n5_
 clear n0_ n1_ n2_ n3_ n4_ n5_
 replace HO175 := Aside0.mk (Kd.R_drew HO175.out)
 replace BK159 := Aside0.mk (blk_drew BK159.out)
 replace BK160 := Aside0.mk (blk_drew BK160.out)
 replace BK161 := Aside0.mk (blk_drew BK161.out)
 replace BK177 := Aside0.mk (blk_drew BK177.out)
 replace HB := Aside0.mk (below_drew1 HB.out)
 refine start_ (n := 14) (S := fun w' => w'.cell? ⟨gb177, 0, none⟩ = some (.string t164) ∧ w'.cell? ⟨gb177, 1, none⟩ = some (.string t165) ∧ w'.cell? ⟨gb177, 2, none⟩ = some (.int .i64 t166) ∧ w'.cell? ⟨gb177, 3, none⟩ = some (.string t167) ∧ w'.cell? ⟨gb177, 4, none⟩ = some (.string t168) ∧ w'.cell? ⟨gb177, 5, none⟩ = some (.int .i64 t169) ∧ w'.cell? ⟨gb177, 6, none⟩ = some (.string t170) ∧ w'.cell? ⟨gb177, 7, none⟩ = some (.string t171) ∧ w'.cell? ⟨gb177, 8, none⟩ = some (.string t172) ∧ w'.cell? ⟨gb177, 9, none⟩ = some (.slice Ao21 t173.length co21) ∧ w'.cell? ⟨gb177, 10, none⟩ = some (.bool t176)) (ds := []) #[false, false, false, false, false, false, false, false, false, false, false, false, false, false] (by kernel_rfl) rfl rfl (by and_intros <;> exact (blk_cell BK177.out _).trans rfl) (fun hHeld => ?_); refine with_tabW w17_made.tab2 w17_made.bits2 (fun HT_ HW_ => ?_)
 generalize w24.drew = w25 at HO175 BK159 BK160 BK161 BK177 HB hHeld ⊢
 refine pure_ (i := 0) (N := some 18) (v := ?_) (a' := ?_) #[true, false, false, false, false, false, false, false, false, false, false, false, false, false] rfl rfl (any_of HT_.out (by kernel_rfl)) (fun _ _ _ h => h) (Or.inl ⟨by rfl, ?_⟩) ?_ ?_
 rotate_left
 ·intro w'
  go_simp
  with_reducible rfl
 rotate_left
 ·simp only [Act.put, List.setIfInBounds_toArray, List.set_cons_zero, List.set_cons_succ, i64_w, i32_w]
  rfl
 refine pure_ (i := 2) (N := some 20) (v := ?_) (a' := ?_) #[true, false, true, false, false, false, false, false, false, false, false, false, false, false] rfl rfl (any_of HT_.out (by kernel_rfl)) (fun _ _ _ h => h) (Or.inl ⟨by rfl, ?_⟩) ?_ ?_
 rotate_left
 ·intro w'
  go_simp
  with_reducible rfl
 rotate_left
 ·simp only [Act.put, List.setIfInBounds_toArray, List.set_cons_zero, List.set_cons_succ, i64_w, i32_w]
  rfl
 refine pure_ (i := 4) (N := some 22) (v := ?_) (a' := ?_) #[true, false, true, false, true, false, false, false, false, false, false, false, false, false] rfl rfl (any_of HT_.out (by kernel_rfl)) (fun _ _ _ h => h) (Or.inl ⟨by rfl, ?_⟩) ?_ ?_
 rotate_left
 ·intro w'
  go_simp
  with_reducible rfl
 rotate_left
 ·simp only [Act.put, List.setIfInBounds_toArray, List.set_cons_zero, List.set_cons_succ, i64_w, i32_w]
  rfl
 refine pure_ (i := 6) (N := some 24) (v := ?_) (a' := ?_) #[true, false, true, false, true, false, true, false, false, false, false, false, false, false] rfl rfl (any_of HT_.out (by kernel_rfl)) (fun _ _ _ h => h) (Or.inl ⟨by rfl, ?_⟩) ?_ ?_
 rotate_left
 ·intro w'
  go_simp
  with_reducible rfl
 rotate_left
 ·simp only [Act.put, List.setIfInBounds_toArray, List.set_cons_zero, List.set_cons_succ, i64_w, i32_w]
  rfl
 refine pure_ (i := 8) (N := some 26) (v := ?_) (a' := ?_) #[true, false, true, false, true, false, true, false, true, false, false, false, false, false] rfl rfl (any_of HT_.out (by kernel_rfl)) (fun _ _ _ h => h) (Or.inl ⟨by rfl, ?_⟩) ?_ ?_
 rotate_left
 ·intro w'
  go_simp
  with_reducible rfl
 rotate_left
 ·simp only [Act.put, List.setIfInBounds_toArray, List.set_cons_zero, List.set_cons_succ, i64_w, i32_w]
  rfl
 refine take_ (i := 1) (N := some 19) (v := ?_) (a' := ?_) #[true, true, true, false, true, false, true, false, true, false, false, false, false, false] rfl rfl (take_ofW HT_.out HW_.out (by kernel_rfl)) (fun _ _ _ h => h) (Or.inl ⟨by rfl, ?_⟩) hHeld ?_ ?_
 rotate_left
 ·rintro w' ⟨s0, s1, s2, s3, s4, s5, s6, s7, s8, s9, s10⟩
  go_simp
  with_reducible rfl
 rotate_left
 ·simp only [Act.put, List.setIfInBounds_toArray, List.set_cons_zero, List.set_cons_succ, i64_w, i32_w]
  rfl
 refine take_ (i := 3) (N := some 21) (v := ?_) (a' := ?_) #[true, true, true, true, true, false, true, false, true, false, false, false, false, false] rfl rfl (take_ofW HT_.out HW_.out (by kernel_rfl)) (fun _ _ _ h => h) (Or.inl ⟨by rfl, ?_⟩) hHeld ?_ ?_
 rotate_left
 ·rintro w' ⟨s0, s1, s2, s3, s4, s5, s6, s7, s8, s9, s10⟩
  go_simp
  with_reducible rfl
 rotate_left
 ·simp only [Act.put, List.setIfInBounds_toArray, List.set_cons_zero, List.set_cons_succ, i64_w, i32_w]
  rfl
 refine take_ (i := 5) (N := some 23) (v := ?_) (a' := ?_) #[true, true, true, true, true, true, true, false, true, false, false, false, false, false] rfl rfl (take_ofW HT_.out HW_.out (by kernel_rfl)) (fun _ _ _ h => h) (Or.inl ⟨by rfl, ?_⟩) hHeld ?_ ?_
 rotate_left
 ·rintro w' ⟨s0, s1, s2, s3, s4, s5, s6, s7, s8, s9, s10⟩
  go_simp
  with_reducible rfl
 rotate_left
 ·simp only [Act.put, List.setIfInBounds_toArray, List.set_cons_zero, List.set_cons_succ, i64_w, i32_w]
  rfl
 refine take_ (i := 7) (N := some 25) (v := ?_) (a' := ?_) #[true, true, true, true, true, true, true, true, true, false, false, false, false, false] rfl rfl (take_ofW HT_.out HW_.out (by kernel_rfl)) (fun _ _ _ h => h) (Or.inl ⟨by rfl, ?_⟩) hHeld ?_ ?_
 rotate_left
 ·rintro w' ⟨s0, s1, s2, s3, s4, s5, s6, s7, s8, s9, s10⟩
  go_simp
  with_reducible rfl
 rotate_left
 ·simp only [Act.put, List.setIfInBounds_toArray, List.set_cons_zero, List.set_cons_succ, i64_w, i32_w]
  rfl
 refine take_ (i := 9) (N := some 27) (v := ?_) (a' := ?_) #[true, true, true, true, true, true, true, true, true, true, false, false, false, false] rfl rfl (take_ofW HT_.out HW_.out (by kernel_rfl)) (fun _ _ _ h => h) (Or.inl ⟨by rfl, ?_⟩) hHeld ?_ ?_
 rotate_left
 ·rintro w' ⟨s0, s1, s2, s3, s4, s5, s6, s7, s8, s9, s10⟩
  go_simp
  with_reducible rfl
 rotate_left
 ·simp only [Act.put, List.setIfInBounds_toArray, List.set_cons_zero, List.set_cons_succ, i64_w, i32_w]
  rfl
 refine pure_ (i := 10) (N := some 28) (v := ?_) (a' := ?_) #[true, true, true, true, true, true, true, true, true, true, true, false, false, false] rfl rfl (any_of HT_.out (by kernel_rfl)) (fun _ _ _ h => h) (Or.inl ⟨by rfl, ?_⟩) ?_ ?_
 rotate_left
 ·intro w'
  go_simp
  with_reducible rfl
 rotate_left
 ·simp only [Act.put, List.setIfInBounds_toArray, List.set_cons_zero, List.set_cons_succ, i64_w, i32_w]
  rfl
 refine take_ (i := 11) (N := some 29) (v := ?_) (a' := ?_) #[true, true, true, true, true, true, true, true, true, true, true, true, false, false] rfl rfl (take_ofW HT_.out HW_.out (by kernel_rfl)) (fun _ _ _ h => h) (Or.inl ⟨by rfl, ?_⟩) hHeld ?_ ?_
 rotate_left
 ·rintro w' ⟨s0, s1, s2, s3, s4, s5, s6, s7, s8, s9, s10⟩
  go_simp
  with_reducible rfl
 rotate_left
 ·simp only [Act.put, List.setIfInBounds_toArray, List.set_cons_zero, List.set_cons_succ, i64_w, i32_w]
  rfl
 refine one_ (i := 12) (N := none) #[true, true, true, true, true, true, true, true, true, true, true, true, true, false] rfl rfl (one_of HT_.out (by kernel_rfl)) (by decide) (fun K hK => ?_)
 obtain ⟨w25x, hw_⟩ : ∃ x, x = w25.setRow gb160 #[.string t164, .string t165, .int .i64 t166, .string t167, .string t168, .int .i64 t169, .string t170, .string t171, .string t172, .slice Ao21 t173.length co21, .bool t176] := ⟨_, rfl⟩
 have mb_ : w25x.heap[gb160]? = some (.cells #[.string t164, .string t165, .int .i64 t166, .string t167, .string t168, .int .i64 t169, .string t170, .string t171, .string t172, .slice Ao21 t173.length co21, .bool t176] 47 (0, 0)) := by rw [hw_]; exact row_new BK160.out
 have mn_ : ∀ k, k ≠ gb160 → w25x.heap[k]? = w25.heap[k]? := fun k hk => by rw [hw_]; exact row_far hk
 have n0_ := Aside0.mk (Kd.R_mono (Kd.R_step (Kd.R_types HO175.out BK160.out (by decide)) (fun k ho _ => mn_ k ho.2)) (fun _ hk => hk.1))
 have n1_ := Aside0.mk ((mn_ gb159 NB159_160.out).trans BK159.out)
 have n2_ := Aside0.mk (mb_)
 have n3_ := Aside0.mk ((mn_ gb161 NB161_160.out).trans BK161.out)
 have n4_ := Aside0.mk ((mn_ gb177 NB177_160.out).trans BK177.out)
 have n5_ : Aside0 (Below w.heap.size w w25x) := ⟨by rw [hw_]; exact below_row HB.out GE160.out _⟩
 refine skip_ (w1 := w25x) (by rfl) rfl (by rw [hw_]; exact run_store_row rfl rfl rfl BK160.out (by kernel_rfl) rfl (by simp [Value.oneCell'])) ?_
 clear hw_ mb_ mn_ BK159 BK160 BK161 BK177 HO175 HB
 refine hK.out _ _ ⟨(blk_cell n4_.out 0).trans rfl, (blk_cell n4_.out 1).trans rfl, (blk_cell n4_.out 2).trans rfl, (blk_cell n4_.out 3).trans rfl, (blk_cell n4_.out 4).trans rfl, (blk_cell n4_.out 5).trans rfl, (blk_cell n4_.out 6).trans rfl, (blk_cell n4_.out 7).trans rfl, (blk_cell n4_.out 8).trans rfl, (blk_cell n4_.out 9).trans rfl, (blk_cell n4_.out 10).trans rfl⟩ (fun hHeld => ?_)
 clear hK K
 have HO175 := n0_
 have BK159 := n1_
 have BK160 := n2_
 have BK161 := n3_
 have BK177 := n4_
 have HB := n5_
 clear n0_ n1_ n2_ n3_ n4_ n5_
 refine one_ (i := 13) (N := none) #[true, true, true, true, true, true, true, true, true, true, true, true, true, true] rfl rfl (one_of HT_.out (by kernel_rfl)) (by decide) (fun K hK => ?_)
 obtain ⟨w25y, hw_⟩ : ∃ x, x = w25x.setRow gb161 #[.string t164, .string t165, .int .i64 t166, .string t167, .string t168, .int .i64 t169, .string t170, .string t171, .string t172, .slice Ao21 t173.length co21, .bool t176] := ⟨_, rfl⟩
 have mb_ : w25y.heap[gb161]? = some (.cells #[.string t164, .string t165, .int .i64 t166, .string t167, .string t168, .int .i64 t169, .string t170, .string t171, .string t172, .slice Ao21 t173.length co21, .bool t176] 48 (0, 0)) := by rw [hw_]; exact row_new BK161.out
 have mn_ : ∀ k, k ≠ gb161 → w25y.heap[k]? = w25x.heap[k]? := fun k hk => by rw [hw_]; exact row_far hk
 have n0_ := Aside0.mk (Kd.R_mono (Kd.R_step (Kd.R_types HO175.out BK161.out (by decide)) (fun k ho _ => mn_ k ho.2)) (fun _ hk => hk.1))
 have n1_ := Aside0.mk ((mn_ gb159 NB159_161.out).trans BK159.out)
 have n2_ := Aside0.mk ((mn_ gb160 NB160_161.out).trans BK160.out)
 have n3_ := Aside0.mk (mb_)
 have n4_ := Aside0.mk ((mn_ gb177 NB177_161.out).trans BK177.out)
 have n5_ : Aside0 (Below w.heap.size w w25y) := ⟨by rw [hw_]; exact below_row HB.out GE161.out _⟩
 refine skip_ (w1 := w25y) (by rfl) rfl (by rw [hw_]; exact run_store_row rfl rfl rfl BK161.out (by kernel_rfl) rfl (by simp [Value.oneCell'])) ?_
 clear hw_ mb_ mn_ BK159 BK160 BK161 BK177 HO175 HB
 refine hK.out _ _ ⟨(blk_cell n4_.out 0).trans rfl, (blk_cell n4_.out 1).trans rfl, (blk_cell n4_.out 2).trans rfl, (blk_cell n4_.out 3).trans rfl, (blk_cell n4_.out 4).trans rfl, (blk_cell n4_.out 5).trans rfl, (blk_cell n4_.out 6).trans rfl, (blk_cell n4_.out 7).trans rfl, (blk_cell n4_.out 8).trans rfl, (blk_cell n4_.out 9).trans rfl, (blk_cell n4_.out 10).trans rfl⟩ (fun hHeld => ?_)
 clear hK K
 have HO175 := n0_
 have BK159 := n1_
 have BK160 := n2_
 have BK161 := n3_
 have BK177 := n4_
 have HB := n5_
 clear n0_ n1_ n2_ n3_ n4_ n5_
 refine done_ (done_of HT_.out (by kernel_rfl)) ?_
 try go_wp2
 refine bodyPost_ret (results_cc rfl _ _ gb160 gb161 47 48 #[.string t164, .string t165, .int .i64 t166, .string t167, .string t168, .int .i64 t169, .string t170, .string t171, .string t172, .slice Ao21 t173.length co21, .bool t176] #[.string t164, .string t165, .int .i64 t166, .string t167, .string t168, .int .i64 t169, .string t170, .string t171, .string t172, .slice Ao21 t173.length co21, .bool t176] (0, 0) (0, 0) _ _ rfl BK160.out Tryd.underlying47 rfl (by kernel_rfl) rfl BK161.out Tryd.underlying48 rfl (by kernel_rfl)) rfl ?_
 exact ⟨_, _, rfl, Kd.R_V HO175.out, Kd.R_V HO175.out, HB.out⟩

end Go.Proofs.YthjhbhgfckaklaaDoor.P
