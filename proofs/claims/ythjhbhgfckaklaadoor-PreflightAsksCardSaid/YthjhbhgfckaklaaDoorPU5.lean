-- PRINTED by pr.py (a driver round the kit's print program): not trusted, Lean checks it.
import Derived.Test.YthjhbhgfckaklaaDoorM2
import Derived.Test.YthjhbhgfckaklaaDoorStrs
import Derived.Test.YthjhbhgfckaklaaDoorM5
import Derived.Test.YthjhbhgfckaklaaDoorM3
import Derived.Test.YthjhbhgfckaklaaDoorPU2
import Derived.Test.YthjhbhgfckaklaaDoorPU3
import Derived.Test.YthjhbhgfckaklaaDoorPU4
namespace Go.Proofs.YthjhbhgfckaklaaDoor.P
open Go.RowKit Go.Proofs.YthjhbhgfckaklaaDoorW.PrintWords Go.Proofs.YthjhbhgfckaklaaDoorW.PrintLast Go.Proofs.YthjhbhgfckaklaaDoorW.PrintMore
attribute [local go_sem] max2_int min2_int max_two min_two max_three min_three max_four min_four   -- for this text's walks alone
set_option linter.unusedVariables false
set_option linter.unusedSimpArgs false

/-! ### w17_lives: function 27 -/
def w17_lives.f  : Option (Bool) := (preflight_Request.f (⟨#[104, 116, 116, 112, 115]⟩ : ByteArray) (⟨#[98, 46, 116, 101, 115, 116]⟩ : ByteArray) 443 (⟨#[104, 116, 116, 112]⟩ : ByteArray) (⟨#[97, 46, 116, 101, 115, 116]⟩ : ByteArray) 80 (⟨#[47]⟩ : ByteArray) (⟨#[]⟩ : ByteArray) (⟨#[71, 69, 84]⟩ : ByteArray) ([] : List ByteArray) true).bind fun bt179 => (if bt179.1.toList = ([79, 80, 84, 73, 79, 78, 83] : List UInt8) then (some ((bt179.2.2.length : Int) == 4)) else (some false))
set_option maxHeartbeats 8000000 in
set_option maxRecDepth 100000 in
theorem w17_lives.calls  (r : Bool) (w : World) (hmx : MaxIs w) (h : w17_lives.f  = some r) :
  Calls Tryd.prog 27 #[] w fun e w' => e = .returned (.bool r) ∧ Below w.heap.size w w' := by
 have hu45 := Tryd.underlying45
 have hu43 := Tryd.underlying43
 have hu47 := Tryd.underlying47
 have hu52 := Tryd.underlying52
 have HB := Aside0.mk (Below.refl w.heap.size w)
 have HMX := Aside0.mk hmx
 clear hmx
 have H := h
 unfold w17_lives.f at H
 clear h
 replace H := Option.bind_eq_some_iff.mp H
 obtain ⟨⟨t179, t180, t181⟩, A10, H⟩ := H
 try dsimp only at H
 have A1 := Aside0.mk A10
 clear A10
 by_cases c2 : t179.toList = ([79, 80, 84, 73, 79, 78, 83] : List UInt8)
 ·rw [if_pos c2] at H
  have c2b0 : (t179.toList == ([79, 80, 84, 73, 79, 78, 83] : List UInt8)) = true := beq_iff_eq.mpr c2
  have c2b1 : (t179.toList != ([79, 80, 84, 73, 79, 78, 83] : List UInt8)) = false := bne_eq_false_iff_eq.mpr c2
  clear c2
  obtain rfl := Option.some.inj H
  go_enter Tryd.func27, Tryd.ntmps27
  go_wp2_with (first | ((with_reducible refine gate_dst (N := 1) rfl ?_); (try (refine gate_guard (by rfl) ?_; dsimp only)); refine box_event ?hg (N := 1) ?hd (cs := #[.string (⟨#[]⟩ : ByteArray), .string (⟨#[]⟩ : ByteArray), .int .i64 0, .string (⟨#[]⟩ : ByteArray), .string (⟨#[]⟩ : ByteArray)]) (t := 45) ?hr ?_; (case hd => rfl); (case hg => rfl); (case hr => first | (go_simp; done) | (go_simp; rfl)); intro gb178 hg w3 hbox hb; have BK178 := Aside0.mk (hbox); have GW178 := Aside0.mk ((by rw [hg]; exact (below_size (bel_later HB.out)) : w.heap.size ≤ gb178)); have GE178 := Aside0.mk ((by rw [hg]; exact (below_size (bel_later HB.out)) : w.heap.size ≤ gb178)); replace HB := Aside0.mk (below_step (bel_later HB.out) hb); clear hb hbox hg; have hq1 := fun j => blk_cell BK178.out j; have hq12 := fun j => blk_frozen BK178.out j) | ((with_reducible refine gate_callee (f := 19) rfl ?_); refine goesL_ (some 7) rfl rfl Tryd.func19 (by kernel_rfl) rfl #[.agg #[.string (⟨#[104, 116, 116, 112, 115]⟩ : ByteArray), .string (⟨#[98, 46, 116, 101, 115, 116]⟩ : ByteArray), .int .i64 443, .string (⟨#[104, 116, 116, 112]⟩ : ByteArray), .string (⟨#[97, 46, 116, 101, 115, 116]⟩ : ByteArray), .int .i64 80, .string (⟨#[47]⟩ : ByteArray), .string (⟨#[]⟩ : ByteArray), .string (⟨#[71, 69, 84]⟩ : ByteArray), .slice none 0 0, .bool true]] rfl (by (try simp only [List.map_toArray, List.map_cons, List.map_nil]); first | done | rfl) ?_; (refine (preflight_Request.calls (⟨#[104, 116, 116, 112, 115]⟩ : ByteArray) (⟨#[98, 46, 116, 101, 115, 116]⟩ : ByteArray) 443 (⟨#[104, 116, 116, 112]⟩ : ByteArray) (⟨#[97, 46, 116, 101, 115, 116]⟩ : ByteArray) 80 (⟨#[47]⟩ : ByteArray) (⟨#[]⟩ : ByteArray) (⟨#[71, 69, 84]⟩ : ByteArray) _ _ ([] : List ByteArray) true t179 t180 t181 _ (maxis_below HMX.out (by repeat (first | (with_reducible first | exact HB.out | apply below_alloc | apply pw_below_drewN | apply below_drew1) | exact HB.out | (refine Below.setCell ?_ ?_ _) | (first | exact GW178.out | exact GW184.out)))) ?side1 ?side2 A1.out).mono ?_); (case side1 => exact Kd.C_nil _ _); (case side2 => exact Nat.le_refl _); rintro e w5 ⟨v182, rfl, ho0, hb⟩; refine ⟨_, rfl, ?_⟩; have HO183 := Aside0.mk (Kd.R_lower ho0 (below_size (by repeat (first | (with_reducible first | exact HB.out | apply below_alloc | apply pw_below_drewN | apply below_drew1 | refine below_set ?_ GE178.out) | exact HB.out)))); replace BK178 := Aside0.mk (blk_below (g := gb178) (o := .cells #[.string (⟨#[104, 116, 116, 112]⟩ : ByteArray), .string (⟨#[97, 46, 116, 101, 115, 116]⟩ : ByteArray), .int .i64 80, .string (⟨#[47]⟩ : ByteArray), .string (⟨#[]⟩ : ByteArray)] 45 (0, 0)) (blk_sets BK178.out) hb); replace HB := Aside0.mk (below_step (by repeat (first | (with_reducible first | exact HB.out | apply below_alloc | apply pw_below_drewN | apply below_drew1 | refine below_set ?_ GE178.out) | exact HB.out)) hb); (try clear hb); (try clear hb2); (try clear hk); (try clear hi); (try clear ho0)) | ((with_reducible refine gate_dst (N := 2) rfl ?_); (try (refine gate_guard (by rfl) ?_; dsimp only)); refine box_event ?hg (N := 2) ?hd (cs := #[.string (⟨#[]⟩ : ByteArray), .string (⟨#[]⟩ : ByteArray), .slice none 0 0]) (t := 52) ?hr ?_; (case hd => rfl); (case hg => rfl); (case hr => first | (go_simp; done) | (go_simp; rfl)); intro gb184 hg w6 hbox hb; have BK184 := Aside0.mk (hbox); have GW184 := Aside0.mk ((by rw [hg]; exact (below_size (by repeat (first | (with_reducible first | exact HB.out | apply below_alloc | apply pw_below_drewN | apply below_drew1 | refine below_set ?_ GE178.out) | exact HB.out))) : w.heap.size ≤ gb184)); have GE184 := Aside0.mk ((by rw [hg]; exact (below_size (by repeat (first | (with_reducible first | exact HB.out | apply below_alloc | apply pw_below_drewN | apply below_drew1 | refine below_set ?_ GE178.out) | exact HB.out))) : w.heap.size ≤ gb184)); have NB178_184 := Aside0.mk ((by rw [hg]; exact Nat.ne_of_lt (blk_lt (blk_later BK178.out)) : gb178 ≠ gb184)); have NB184_178 := Aside0.mk ((by rw [hg]; exact Nat.ne_of_gt (blk_lt (blk_later BK178.out)) : gb184 ≠ gb178)); replace HO183 := Aside0.mk (Kd.R_below (R_later HO183.out) hb); replace BK178 := Aside0.mk (blk_below (blk_later BK178.out) hb); replace HB := Aside0.mk (below_step (by repeat (first | (with_reducible first | exact HB.out | apply below_alloc | apply pw_below_drewN | apply below_drew1 | refine below_set ?_ GE178.out) | exact HB.out)) hb); clear hb hbox hg; have hnb7 := NB184_178.out; have hnc7 := NB178_184.out; have hq2 := fun j => blk_cell BK184.out j; have hq13 := fun j => blk_frozen BK184.out j; obtain ⟨Ao9, co9, eo9⟩ := Kd.R_slice HO183.out; subst eo9))
  go_ret
  exact ⟨by first | rfl | (simp [errW_none, errW_some] <;> rfl) | (simp [*, errW_none, errW_some] <;> rfl), by repeat (first | (with_reducible first | exact HB.out | apply below_alloc | apply pw_below_drewN | apply below_drew1 | refine below_set ?_ GE178.out | refine below_set ?_ GE184.out) | exact HB.out)⟩
 rw [if_neg c2] at H
 have c2b0 : (t179.toList == ([79, 80, 84, 73, 79, 78, 83] : List UInt8)) = false := beq_eq_false_iff_ne.mpr c2
 have c2b1 : (t179.toList != ([79, 80, 84, 73, 79, 78, 83] : List UInt8)) = true := bne_iff_ne.mpr c2
 obtain rfl := Option.some.inj H
 go_enter Tryd.func27, Tryd.ntmps27
 go_wp2_with (first | ((with_reducible refine gate_dst (N := 1) rfl ?_); (try (refine gate_guard (by rfl) ?_; dsimp only)); refine box_event ?hg (N := 1) ?hd (cs := #[.string (⟨#[]⟩ : ByteArray), .string (⟨#[]⟩ : ByteArray), .int .i64 0, .string (⟨#[]⟩ : ByteArray), .string (⟨#[]⟩ : ByteArray)]) (t := 45) ?hr ?_; (case hd => rfl); (case hg => rfl); (case hr => first | (go_simp; done) | (go_simp; rfl)); intro gb178 hg w10 hbox hb; have BK178 := Aside0.mk (hbox); have GW178 := Aside0.mk ((by rw [hg]; exact (below_size (bel_later HB.out)) : w.heap.size ≤ gb178)); have GE178 := Aside0.mk ((by rw [hg]; exact (below_size (bel_later HB.out)) : w.heap.size ≤ gb178)); replace HB := Aside0.mk (below_step (bel_later HB.out) hb); clear hb hbox hg; have hq3 := fun j => blk_cell BK178.out j; have hq14 := fun j => blk_frozen BK178.out j) | ((with_reducible refine gate_callee (f := 19) rfl ?_); refine goesL_ (some 7) rfl rfl Tryd.func19 (by kernel_rfl) rfl #[.agg #[.string (⟨#[104, 116, 116, 112, 115]⟩ : ByteArray), .string (⟨#[98, 46, 116, 101, 115, 116]⟩ : ByteArray), .int .i64 443, .string (⟨#[104, 116, 116, 112]⟩ : ByteArray), .string (⟨#[97, 46, 116, 101, 115, 116]⟩ : ByteArray), .int .i64 80, .string (⟨#[47]⟩ : ByteArray), .string (⟨#[]⟩ : ByteArray), .string (⟨#[71, 69, 84]⟩ : ByteArray), .slice none 0 0, .bool true]] rfl (by (try simp only [List.map_toArray, List.map_cons, List.map_nil]); first | done | rfl) ?_; (refine (preflight_Request.calls (⟨#[104, 116, 116, 112, 115]⟩ : ByteArray) (⟨#[98, 46, 116, 101, 115, 116]⟩ : ByteArray) 443 (⟨#[104, 116, 116, 112]⟩ : ByteArray) (⟨#[97, 46, 116, 101, 115, 116]⟩ : ByteArray) 80 (⟨#[47]⟩ : ByteArray) (⟨#[]⟩ : ByteArray) (⟨#[71, 69, 84]⟩ : ByteArray) _ _ ([] : List ByteArray) true t179 t180 t181 _ (maxis_below HMX.out (by repeat (first | (with_reducible first | exact HB.out | apply below_alloc | apply pw_below_drewN | apply below_drew1) | exact HB.out | (refine Below.setCell ?_ ?_ _) | (first | exact GW178.out | exact GW184.out)))) ?side1 ?side2 A1.out).mono ?_); (case side1 => exact Kd.C_nil _ _); (case side2 => exact Nat.le_refl _); rintro e w12 ⟨v182, rfl, ho0, hb⟩; refine ⟨_, rfl, ?_⟩; have HO183 := Aside0.mk (Kd.R_lower ho0 (below_size (by repeat (first | (with_reducible first | exact HB.out | apply below_alloc | apply pw_below_drewN | apply below_drew1 | refine below_set ?_ GE178.out) | exact HB.out)))); replace BK178 := Aside0.mk (blk_below (g := gb178) (o := .cells #[.string (⟨#[104, 116, 116, 112]⟩ : ByteArray), .string (⟨#[97, 46, 116, 101, 115, 116]⟩ : ByteArray), .int .i64 80, .string (⟨#[47]⟩ : ByteArray), .string (⟨#[]⟩ : ByteArray)] 45 (0, 0)) (blk_sets BK178.out) hb); replace HB := Aside0.mk (below_step (by repeat (first | (with_reducible first | exact HB.out | apply below_alloc | apply pw_below_drewN | apply below_drew1 | refine below_set ?_ GE178.out) | exact HB.out)) hb); (try clear hb); (try clear hb2); (try clear hk); (try clear hi); (try clear ho0)) | ((with_reducible refine gate_dst (N := 2) rfl ?_); (try (refine gate_guard (by rfl) ?_; dsimp only)); refine box_event ?hg (N := 2) ?hd (cs := #[.string (⟨#[]⟩ : ByteArray), .string (⟨#[]⟩ : ByteArray), .slice none 0 0]) (t := 52) ?hr ?_; (case hd => rfl); (case hg => rfl); (case hr => first | (go_simp; done) | (go_simp; rfl)); intro gb184 hg w13 hbox hb; have BK184 := Aside0.mk (hbox); have GW184 := Aside0.mk ((by rw [hg]; exact (below_size (by repeat (first | (with_reducible first | exact HB.out | apply below_alloc | apply pw_below_drewN | apply below_drew1 | refine below_set ?_ GE178.out) | exact HB.out))) : w.heap.size ≤ gb184)); have GE184 := Aside0.mk ((by rw [hg]; exact (below_size (by repeat (first | (with_reducible first | exact HB.out | apply below_alloc | apply pw_below_drewN | apply below_drew1 | refine below_set ?_ GE178.out) | exact HB.out))) : w.heap.size ≤ gb184)); have NB178_184 := Aside0.mk ((by rw [hg]; exact Nat.ne_of_lt (blk_lt (blk_later BK178.out)) : gb178 ≠ gb184)); have NB184_178 := Aside0.mk ((by rw [hg]; exact Nat.ne_of_gt (blk_lt (blk_later BK178.out)) : gb184 ≠ gb178)); replace HO183 := Aside0.mk (Kd.R_below (R_later HO183.out) hb); replace BK178 := Aside0.mk (blk_below (blk_later BK178.out) hb); replace HB := Aside0.mk (below_step (by repeat (first | (with_reducible first | exact HB.out | apply below_alloc | apply pw_below_drewN | apply below_drew1 | refine below_set ?_ GE178.out) | exact HB.out)) hb); clear hb hbox hg; have hnb14 := NB184_178.out; have hnc14 := NB178_184.out; have hq4 := fun j => blk_cell BK184.out j; have hq15 := fun j => blk_frozen BK184.out j; obtain ⟨Ao16, co16, eo16⟩ := Kd.R_slice HO183.out; subst eo16))
 go_ret
 exact ⟨by first | rfl | (simp [errW_none, errW_some] <;> rfl) | (simp [*, errW_none, errW_some] <;> rfl), by repeat (first | (with_reducible first | exact HB.out | apply below_alloc | apply pw_below_drewN | apply below_drew1 | refine below_set ?_ GE178.out | refine below_set ?_ GE184.out) | exact HB.out)⟩

/-! ### w17_PreflightAsks: function 5 -/
def w17_PreflightAsks.f (k : Nat) (a0_0 : ByteArray) (a0_1 : ByteArray) (a0_2 : ByteArray) (l0_3 : List ByteArray) (a0_4 : Bool) : Option (Bool) := (w17_made.f k a0_0 a0_1 a0_2 l0_3 a0_4).bind fun bt186 => ((preflight_Request.f bt186.1 bt186.2.1 bt186.2.2.1 bt186.2.2.2.1 bt186.2.2.2.2.1 bt186.2.2.2.2.2.1 bt186.2.2.2.2.2.2.1 bt186.2.2.2.2.2.2.2.1 bt186.2.2.2.2.2.2.2.2.1 bt186.2.2.2.2.2.2.2.2.2.1 bt186.2.2.2.2.2.2.2.2.2.2.1).bind fun bt214 => ((r17_Request.f k bt186.2.2.2.2.2.2.2.2.2.2.2.1 bt186.2.2.2.2.2.2.2.2.2.2.2.2.1 bt186.2.2.2.2.2.2.2.2.2.2.2.2.2.1 bt186.2.2.2.2.2.2.2.2.2.2.2.2.2.2.1 bt186.2.2.2.2.2.2.2.2.2.2.2.2.2.2.2.1 bt186.2.2.2.2.2.2.2.2.2.2.2.2.2.2.2.2.1 bt186.2.2.2.2.2.2.2.2.2.2.2.2.2.2.2.2.2.1 bt186.2.2.2.2.2.2.2.2.2.2.2.2.2.2.2.2.2.2.1 bt186.2.2.2.2.2.2.2.2.2.2.2.2.2.2.2.2.2.2.2.1 bt186.2.2.2.2.2.2.2.2.2.2.2.2.2.2.2.2.2.2.2.2.1 bt186.2.2.2.2.2.2.2.2.2.2.2.2.2.2.2.2.2.2.2.2.2).bind fun bt220 => ((r14_May.f k bt214.1 bt214.2.1 bt214.2.2).bind fun t226 => (if bt214.1.toList = bt220.1.toList then (if bt214.2.1.toList = bt220.2.1.toList then ((r14_Same.f k bt214.2.2 bt220.2.2).bind fun t227 => (if t227 = true then (if t226 = true then ((preflight_Host.f bt186.2.2.2.1 bt186.2.2.2.2.1 bt186.2.2.2.2.2.1 bt186.2.2.2.2.2.2.1 bt186.2.2.2.2.2.2.2.1).bind fun t228 => ((r17_Host.f k bt186.2.2.2.1 bt186.2.2.2.2.1 bt186.2.2.2.2.2.1 bt186.2.2.2.2.2.2.1 bt186.2.2.2.2.2.2.2.1).bind fun t229 => (if t228.toList = t229.toList then ((preflight_Simple.f a0_2).bind fun t230 => ((r17_Simple.f a0_2).bind fun t231 => (if (t230 == t231) = true then ((w17_lives.f).bind fun t232 => (some t232)) else (none)))) else (none)))) else (none)) else (none))) else (none)) else (none)))))
def w17_PreflightAsks.T5 : Bool × List (List Nat × List Nat) := (true, [([], []), ([0], [0]), ([], []), ([2], [2]), ([1, 3], [1, 3]), ([4], [4]), ([5], [5]), ([6, 5], [5, 6]), ([5], [5]), ([8, 5], [5, 8]), ([7, 9, 5], [5, 7, 9]), ([5, 10], [5, 10]), ([11, 5], [11]), ([12], [12]), ([13, 12], [12, 13]), ([12], [12]), ([15, 12], [12, 15]), ([14, 16, 12, 12], [12, 14, 16]), ([12, 17], [12, 17]), ([18, 17], [18]), ([19], [19]), ([19, 20], [19, 20]), ([21, 19], [21]), ([22], [22]), ([23, 22], [22, 23]), ([24, 22, 22], [22, 24]), ([22], [22]), ([26, 22], [22, 26]), ([27, 25, 22], [22, 27]), ([25, 28, 22], [22, 25, 28]), ([22, 29], [22, 29]), ([30, 28], [30]), ([31], [31]), ([32, 31], [31, 32]), ([33, 31, 31], [31, 33]), ([31], [31]), ([35, 31], [31, 35]), ([36, 34, 31], [31, 36]), ([34, 37, 31], [31, 34, 37]), ([31, 38], [31, 38]), ([39, 37], [39]), ([40, 40], [40]), ([40, 41], [40, 41]), ([42, 41, 0, 1, 2, 3, 4, 5, 6, 7, 8, 9, 10, 11, 12, 13, 14, 15, 16, 17, 18, 19, 20, 21, 22, 23, 24, 25, 26, 27, 28, 29, 30, 31, 32, 33, 34, 35, 36, 37, 38, 39, 40, 41, 42], [42])])
def w17_PreflightAsks.B5 : List Nat := [0, 1, 0, 4, 15, 31, 63, 127, 63, 319, 1023, 2047, 4095, 8191, 16383, 8191, 40959, 131071, 262143, 524287, 1048575, 2097151, 4194303, 8388607, 16777215, 33554431, 8388607, 75497471, 268435455, 536870911, 1073741823, 2147483647, 4294967295, 8589934591, 17179869183, 4294967295, 38654705663, 137438953471, 274877906943, 549755813887, 1099511627775, 2199023255551, 4398046511103, 8796093022207]
theorem w17_PreflightAsks.tab5 : rtab .any (opsOf Tryd.f5 5) = w17_PreflightAsks.T5 := by kernel_rfl
theorem w17_PreflightAsks.bits5 : waitsOk w17_PreflightAsks.T5.2 w17_PreflightAsks.B5 = true := by kernel_rfl
set_option maxHeartbeats 8000000 in
set_option maxRecDepth 100000 in
theorem w17_PreflightAsks.calls (k : Nat) (a0_0 : ByteArray) (a0_1 : ByteArray) (a0_2 : ByteArray) (A0_3 : Option Addr) (c0_3 : Nat) (l0_3 : List ByteArray) (a0_4 : Bool) (r : Bool) (w : World) (hmx : MaxIs w) (hr0_3 : Kd.C Kd.string w A0_3 l0_3.length l0_3) (hc0_3 : l0_3.length ≤ c0_3) (h : w17_PreflightAsks.f k a0_0 a0_1 a0_2 l0_3 a0_4 = some r) :
  Calls Tryd.prog 5 #[.agg #[.string a0_0, .string a0_1, .string a0_2, .slice A0_3 l0_3.length c0_3, .bool a0_4]] w fun e w' => e = .returned (.bool r) ∧ Below w.heap.size w w' := by
 have hu41 := Tryd.underlying41
 have hu47 := Tryd.underlying47
 have hu48 := Tryd.underlying48
 have hu52 := Tryd.underlying52
 have hu45 := Tryd.underlying45
 have HR0_3 := Aside0.mk hr0_3
 have HC0_3 := Aside0.mk hc0_3
 clear hr0_3 hc0_3
 have HB := Aside0.mk (Below.refl w.heap.size w)
 have HMX := Aside0.mk hmx
 clear hmx
 have H := h
 unfold w17_PreflightAsks.f at H
 clear h
 replace H := Option.bind_eq_some_iff.mp H
 obtain ⟨⟨t186, t187, t188, t189, t190, t191, t192, t193, t194, t195, t198, t199, t200, t201, t202, t203, t204, t205, t206, t207, t208, t211⟩, A20, H⟩ := H
 try dsimp only at H
 have A2 := Aside0.mk A20
 clear A20
 replace H := Option.bind_eq_some_iff.mp H
 obtain ⟨⟨t214, t215, t216⟩, A30, H⟩ := H
 try dsimp only at H
 have A3 := Aside0.mk A30
 clear A30
 replace H := Option.bind_eq_some_iff.mp H
 obtain ⟨⟨t220, t221, t222⟩, A40, H⟩ := H
 try dsimp only at H
 have A4 := Aside0.mk A40
 clear A40
 replace H := Option.bind_eq_some_iff.mp H
 obtain ⟨t226, A50, H⟩ := H
 try dsimp only at H
 have A5 := Aside0.mk A50
 clear A50
 by_cases c6 : t214.toList = t220.toList
 ·rw [if_pos c6] at H
  have c6b0 : (t214.toList == t220.toList) = true := beq_iff_eq.mpr c6
  have c6b1 : (t214.toList != t220.toList) = false := bne_eq_false_iff_eq.mpr c6
  clear c6
  by_cases c7 : t215.toList = t221.toList
  ·rw [if_pos c7] at H
   have c7b0 : (t215.toList == t221.toList) = true := beq_iff_eq.mpr c7
   have c7b1 : (t215.toList != t221.toList) = false := bne_eq_false_iff_eq.mpr c7
   clear c7
   replace H := Option.bind_eq_some_iff.mp H
   obtain ⟨t227, A80, H⟩ := H
   try dsimp only at H
   have A8 := Aside0.mk A80
   clear A80
   by_cases c9 : t227 = true
   ·subst c9
    have H1 : (if t226 = true then ((preflight_Host.f t189 t190 t191 t192 t193).bind fun t228 => ((r17_Host.f k t189 t190 t191 t192 t193).bind fun t229 => (if t228.toList = t229.toList then ((preflight_Simple.f a0_2).bind fun t230 => ((r17_Simple.f a0_2).bind fun t231 => (if (t230 == t231) = true then ((w17_lives.f).bind fun t232 => (some t232)) else (none)))) else (none)))) else (none)) = some r := by rw [if_pos rfl] at H; exact H
    clear H
    have H := H1
    clear H1
    by_cases c10 : t226 = true
    ·subst c10
     have H1 : ((preflight_Host.f t189 t190 t191 t192 t193).bind fun t228 => ((r17_Host.f k t189 t190 t191 t192 t193).bind fun t229 => (if t228.toList = t229.toList then ((preflight_Simple.f a0_2).bind fun t230 => ((r17_Simple.f a0_2).bind fun t231 => (if (t230 == t231) = true then ((w17_lives.f).bind fun t232 => (some t232)) else (none)))) else (none)))) = some r := by rw [if_pos rfl] at H; exact H
     clear H
     have H := H1
     clear H1
     replace H := Option.bind_eq_some_iff.mp H
     obtain ⟨t228, A110, H⟩ := H
     try dsimp only at H
     have A11 := Aside0.mk A110
     clear A110
     replace H := Option.bind_eq_some_iff.mp H
     obtain ⟨t229, A120, H⟩ := H
     try dsimp only at H
     have A12 := Aside0.mk A120
     clear A120
     by_cases c13 : t228.toList = t229.toList
     ·rw [if_pos c13] at H
      have c13b0 : (t228.toList == t229.toList) = true := beq_iff_eq.mpr c13
      have c13b1 : (t228.toList != t229.toList) = false := bne_eq_false_iff_eq.mpr c13
      clear c13
      replace H := Option.bind_eq_some_iff.mp H
      obtain ⟨t230, A140, H⟩ := H
      try dsimp only at H
      have A14 := Aside0.mk A140
      clear A140
      replace H := Option.bind_eq_some_iff.mp H
      obtain ⟨t231, A150, H⟩ := H
      try dsimp only at H
      have A15 := Aside0.mk A150
      clear A150
      by_cases c16 : (t230 == t231) = true
      ·rw [if_pos c16] at H
       have c16b0 : (t230 == t231) = true := c16
       (try (have c16b1 : decide (t230 = t231) = true := by simpa using c16))
       (try (have c16b2 : (t230 == t231) = true := by simpa using c16))
       clear c16
       replace H := Option.bind_eq_some_iff.mp H
       obtain ⟨t232, A170, H⟩ := H
       try dsimp only at H
       have A17 := Aside0.mk A170
       clear A170
       obtain rfl := Option.some.inj H
       go_enter Tryd.func5, Tryd.ntmps5
       try go_wp2_with (first | ((with_reducible refine gate_dst (N := 1) rfl ?_); refine box_event ?hg (N := 1) ?hd (cs := #[.string a0_0, .string a0_1, .string a0_2, .slice A0_3 l0_3.length c0_3, .bool a0_4]) (t := 41) ?hr ?_; (case hd => rfl); (case hg => rfl); (case hr => first | (go_simp; done) | (go_simp; rfl)); intro gb185 hg w18 hbox hb; have BK185 := Aside0.mk (hbox); have GW185 := Aside0.mk ((by rw [hg]; exact (below_size (bel_later HB.out)) : w.heap.size ≤ gb185)); have GE185 := Aside0.mk ((by rw [hg]; exact (below_size (bel_later HB.out)) : w.heap.size ≤ gb185)); replace HB := Aside0.mk (below_step (bel_later HB.out) hb); clear hb hbox hg; have hq5 := fun j => blk_cell BK185.out j; have hq16 := fun j => blk_frozen BK185.out j) | ((with_reducible refine gate_callee (f := 18) rfl ?_); refine goesL_ (some 10) rfl rfl Tryd.func18 (by kernel_rfl) rfl #[.agg #[.string a0_0, .string a0_1, .string a0_2, .slice A0_3 l0_3.length c0_3, .bool a0_4]] rfl (by (try simp only [List.map_toArray, List.map_cons, List.map_nil]); first | done | rfl) ?_; (with_reducible refine (w17_made.calls k a0_0 a0_1 a0_2 _ _ l0_3 a0_4 t186 t187 t188 t189 t190 t191 t192 t193 t194 t195 t198 t199 t200 t201 t202 t203 t204 t205 t206 t207 t208 t211 _ ?side1 ?side2 A2.out).mono ?_); (case side1 => exact C_later (Kd.C_below HR0_3.out HB.out)); (case side2 => exact HC0_3.out); rintro e w20 ⟨v196, v209, rfl, ho0, ho1, hb⟩; refine ⟨_, rfl, ?_⟩; have HO197 := Aside0.mk (Kd.V_lower (Kd.V_mono (ok' := fun k_ => k_ ≠ gb185) ho0 (fun k_ hk_ => (Kd.freshB (blk_later BK185.out) k_ hk_))) (below_size (by repeat (first | (with_reducible first | exact HB.out | apply below_alloc | apply pw_below_drewN | apply below_drew1 | refine below_set ?_ GE185.out) | exact HB.out)))); have HO210 := Aside0.mk (Kd.V_lower (Kd.V_mono (ok' := fun k_ => k_ ≠ gb185) ho1 (fun k_ hk_ => (Kd.freshB (blk_later BK185.out) k_ hk_))) (below_size (by repeat (first | (with_reducible first | exact HB.out | apply below_alloc | apply pw_below_drewN | apply below_drew1 | refine below_set ?_ GE185.out) | exact HB.out)))); replace BK185 := Aside0.mk (blk_below (blk_later BK185.out) hb); replace HB := Aside0.mk (below_step (by repeat (first | (with_reducible first | exact HB.out | apply below_alloc | apply pw_below_drewN | apply below_drew1 | refine below_set ?_ GE185.out) | exact HB.out)) hb); (try clear hb); (try clear hb2); (try clear hk); (try clear hi); (try clear ho0); (try clear ho1)) | ((with_reducible refine gate_dst (N := 3) rfl ?_); refine box_event ?hg (N := 3) ?hd (cs := #[.string (⟨#[]⟩ : ByteArray), .string (⟨#[]⟩ : ByteArray), .int .i64 0, .string (⟨#[]⟩ : ByteArray), .string (⟨#[]⟩ : ByteArray), .int .i64 0, .string (⟨#[]⟩ : ByteArray), .string (⟨#[]⟩ : ByteArray), .string (⟨#[]⟩ : ByteArray), .slice none 0 0, .bool false]) (t := 47) ?hr ?_; (case hd => rfl); (case hg => rfl); (case hr => first | (go_simp; done) | (go_simp; rfl)); intro gb212 hg w21 hbox hb; have BK212 := Aside0.mk (hbox); have GW212 := Aside0.mk ((by rw [hg]; exact (below_size (by repeat (first | (with_reducible first | exact HB.out | apply below_alloc | apply pw_below_drewN | apply below_drew1 | refine below_set ?_ GE185.out) | exact HB.out))) : w.heap.size ≤ gb212)); have GE212 := Aside0.mk ((by rw [hg]; exact (below_size (by repeat (first | (with_reducible first | exact HB.out | apply below_alloc | apply pw_below_drewN | apply below_drew1 | refine below_set ?_ GE185.out) | exact HB.out))) : w.heap.size ≤ gb212)); have NB185_212 := Aside0.mk ((by rw [hg]; exact Nat.ne_of_lt (blk_lt (blk_later BK185.out)) : gb185 ≠ gb212)); have NB212_185 := Aside0.mk ((by rw [hg]; exact Nat.ne_of_gt (blk_lt (blk_later BK185.out)) : gb212 ≠ gb185)); replace HO197 := Aside0.mk (Kd.V_below (Kd.V_elderB (V_later HO197.out) gb212 (Nat.le_of_eq hg.symm)) hb); replace HO210 := Aside0.mk (Kd.V_below (Kd.V_elderB (V_later HO210.out) gb212 (Nat.le_of_eq hg.symm)) hb); replace BK185 := Aside0.mk (blk_below (blk_later BK185.out) hb); replace HB := Aside0.mk (below_step (by repeat (first | (with_reducible first | exact HB.out | apply below_alloc | apply pw_below_drewN | apply below_drew1 | refine below_set ?_ GE185.out) | exact HB.out)) hb); clear hb hbox hg) | ((with_reducible refine gate_dst (N := 4) rfl ?_); refine box_event ?hg (N := 4) ?hd (cs := #[.string (⟨#[]⟩ : ByteArray), .string (⟨#[]⟩ : ByteArray), .int .i64 0, .string (⟨#[]⟩ : ByteArray), .string (⟨#[]⟩ : ByteArray), .int .i64 0, .string (⟨#[]⟩ : ByteArray), .string (⟨#[]⟩ : ByteArray), .string (⟨#[]⟩ : ByteArray), .slice none 0 0, .bool false]) (t := 48) ?hr ?_; (case hd => rfl); (case hg => rfl); (case hr => first | (go_simp; done) | (go_simp; rfl)); intro gb213 hg w22 hbox hb; have BK213 := Aside0.mk (hbox); have GW213 := Aside0.mk ((by rw [hg]; exact (below_size (by repeat (first | (with_reducible first | exact HB.out | apply below_alloc | apply pw_below_drewN | apply below_drew1 | refine below_set ?_ GE185.out | refine below_set ?_ GE212.out) | exact HB.out))) : w.heap.size ≤ gb213)); have GE213 := Aside0.mk ((by rw [hg]; exact (below_size (by repeat (first | (with_reducible first | exact HB.out | apply below_alloc | apply pw_below_drewN | apply below_drew1 | refine below_set ?_ GE185.out | refine below_set ?_ GE212.out) | exact HB.out))) : w.heap.size ≤ gb213)); have NB185_213 := Aside0.mk ((by rw [hg]; exact Nat.ne_of_lt (blk_lt (blk_later BK185.out)) : gb185 ≠ gb213)); have NB213_185 := Aside0.mk ((by rw [hg]; exact Nat.ne_of_gt (blk_lt (blk_later BK185.out)) : gb213 ≠ gb185)); have NB212_213 := Aside0.mk ((by rw [hg]; exact Nat.ne_of_lt (blk_lt (blk_later BK212.out)) : gb212 ≠ gb213)); have NB213_212 := Aside0.mk ((by rw [hg]; exact Nat.ne_of_gt (blk_lt (blk_later BK212.out)) : gb213 ≠ gb212)); replace HO197 := Aside0.mk (Kd.V_below (Kd.V_elderB (V_later HO197.out) gb213 (Nat.le_of_eq hg.symm)) hb); replace HO210 := Aside0.mk (Kd.V_below (Kd.V_elderB (V_later HO210.out) gb213 (Nat.le_of_eq hg.symm)) hb); replace BK185 := Aside0.mk (blk_below (blk_later BK185.out) hb); replace BK212 := Aside0.mk (blk_below (blk_later BK212.out) hb); replace HB := Aside0.mk (below_step (by repeat (first | (with_reducible first | exact HB.out | apply below_alloc | apply pw_below_drewN | apply below_drew1 | refine below_set ?_ GE185.out | refine below_set ?_ GE212.out) | exact HB.out)) hb); clear hb hbox hg; have hnb23 := NB212_185.out; have hnc23 := NB185_212.out; have hnb24 := NB212_213.out; have hnc24 := NB213_212.out; have hq6 := fun j => blk_cell BK212.out j; have hq17 := fun j => blk_frozen BK212.out j; obtain ⟨Ao26, co26, eo26⟩ := Kd.V_slice HO197.out; subst eo26; have hnb27 := NB213_185.out; have hnc27 := NB185_213.out; have hq7 := fun j => blk_cell BK213.out j; have hq18 := fun j => blk_frozen BK213.out j; obtain ⟨Ao29, co29, eo29⟩ := Kd.V_slice HO210.out; subst eo29) | ((with_reducible refine gate_callee (f := 19) rfl ?_); refine goesL_ (some 14) rfl rfl Tryd.func19 (by kernel_rfl) rfl #[.agg #[.string t186, .string t187, .int .i64 t188, .string t189, .string t190, .int .i64 t191, .string t192, .string t193, .string t194, .slice Ao26 t195.length co26, .bool t198]] rfl (by (try simp only [List.map_toArray, List.map_cons, List.map_nil]); first | done | rfl) ?_; (with_reducible refine (preflight_Request.calls t186 t187 t188 t189 t190 t191 t192 t193 t194 _ _ t195 t198 t214 t215 t216 _ (maxis_below HMX.out (by repeat (first | (with_reducible first | exact HB.out | apply below_alloc | apply pw_below_drewN | apply below_drew1) | exact HB.out | (refine Below.setCell ?_ ?_ _) | (first | exact GW185.out | exact GW212.out | exact GW213.out | exact GW219.out | exact GW225.out)))) ?side1 ?side2 A3.out).mono ?_); (case side1 => refine (Kd.V_reads' (e := 9) (base := w.heap.size) (ok := fun k_ => ((k_ ≠ gb185 ∧ k_ ≠ gb212) ∧ k_ ≠ gb213)) (n := t195.length) (c := co26) ?_).2.2; exact (by (with_reducible repeat (first | apply Kd.V_alloc | apply Kd.V_drewN | apply Kd.V_drew)); exact (Kd.V_mono (Kd.V_mono (Kd.V_far (p := ⟨gb213, 10, none⟩) (Kd.V_far (p := ⟨gb213, 9, none⟩) (Kd.V_far (p := ⟨gb213, 8, none⟩) (Kd.V_far (p := ⟨gb213, 7, none⟩) (Kd.V_far (p := ⟨gb213, 6, none⟩) (Kd.V_far (p := ⟨gb213, 5, none⟩) (Kd.V_far (p := ⟨gb213, 4, none⟩) (Kd.V_far (p := ⟨gb213, 3, none⟩) (Kd.V_far (p := ⟨gb213, 2, none⟩) (Kd.V_far (p := ⟨gb213, 1, none⟩) (Kd.V_far (p := ⟨gb213, 0, none⟩) (V_fars (g := gb212) (Kd.V_mono (Kd.V_mono HO197.out (fun k_ hk => (⟨hk, hk.1.2⟩ : _ ∧ k_ ≠ gb212))) (fun k_ hk => (⟨hk, hk.1.2⟩ : _ ∧ k_ ≠ gb213))) (fun _ hk => hk.1.2)) (fun _ hk => hk.2) (.string t199)) (fun _ hk => hk.2) (.string t200)) (fun _ hk => hk.2) (.int .i64 t201)) (fun _ hk => hk.2) (.string t202)) (fun _ hk => hk.2) (.string t203)) (fun _ hk => hk.2) (.int .i64 t204)) (fun _ hk => hk.2) (.string t205)) (fun _ hk => hk.2) (.string t206)) (fun _ hk => hk.2) (.string t207)) (fun _ hk => hk.2) (.slice Ao29 t208.length co29)) (fun _ hk => hk.2) (.bool t211)) (fun _ h_ => h_.1)) (fun _ h_ => h_.1)))); (case side2 => exact (Kd.V_reads' HO197.out).2.1); rintro e w30 ⟨v217, rfl, ho0, hb⟩; refine ⟨_, rfl, ?_⟩; have HO218 := Aside0.mk (Kd.R_lower ho0 (below_size (by repeat (first | (with_reducible first | exact HB.out | apply below_alloc | apply pw_below_drewN | apply below_drew1 | refine below_set ?_ GE185.out | refine below_set ?_ GE212.out | refine below_set ?_ GE213.out) | exact HB.out)))); replace HO197 := Aside0.mk (Kd.V_elder' (by (with_reducible repeat (first | apply Kd.V_alloc | apply Kd.V_drewN | apply Kd.V_drew)); exact (Kd.V_mono (Kd.V_mono (Kd.V_far (p := ⟨gb213, 10, none⟩) (Kd.V_far (p := ⟨gb213, 9, none⟩) (Kd.V_far (p := ⟨gb213, 8, none⟩) (Kd.V_far (p := ⟨gb213, 7, none⟩) (Kd.V_far (p := ⟨gb213, 6, none⟩) (Kd.V_far (p := ⟨gb213, 5, none⟩) (Kd.V_far (p := ⟨gb213, 4, none⟩) (Kd.V_far (p := ⟨gb213, 3, none⟩) (Kd.V_far (p := ⟨gb213, 2, none⟩) (Kd.V_far (p := ⟨gb213, 1, none⟩) (Kd.V_far (p := ⟨gb213, 0, none⟩) (V_fars (g := gb212) (Kd.V_mono (Kd.V_mono HO197.out (fun k_ hk => (⟨hk, hk.1.2⟩ : _ ∧ k_ ≠ gb212))) (fun k_ hk => (⟨hk, hk.1.2⟩ : _ ∧ k_ ≠ gb213))) (fun _ hk => hk.1.2)) (fun _ hk => hk.2) (.string t199)) (fun _ hk => hk.2) (.string t200)) (fun _ hk => hk.2) (.int .i64 t201)) (fun _ hk => hk.2) (.string t202)) (fun _ hk => hk.2) (.string t203)) (fun _ hk => hk.2) (.int .i64 t204)) (fun _ hk => hk.2) (.string t205)) (fun _ hk => hk.2) (.string t206)) (fun _ hk => hk.2) (.string t207)) (fun _ hk => hk.2) (.slice Ao29 t208.length co29)) (fun _ hk => hk.2) (.bool t211)) (fun _ h_ => h_.1)) (fun _ h_ => h_.1))) (Kd.R_base ho0) hb); replace HO210 := Aside0.mk (Kd.V_elder' (by (with_reducible repeat (first | apply Kd.V_alloc | apply Kd.V_drewN | apply Kd.V_drew)); exact (Kd.V_mono (Kd.V_mono (Kd.V_far (p := ⟨gb213, 10, none⟩) (Kd.V_far (p := ⟨gb213, 9, none⟩) (Kd.V_far (p := ⟨gb213, 8, none⟩) (Kd.V_far (p := ⟨gb213, 7, none⟩) (Kd.V_far (p := ⟨gb213, 6, none⟩) (Kd.V_far (p := ⟨gb213, 5, none⟩) (Kd.V_far (p := ⟨gb213, 4, none⟩) (Kd.V_far (p := ⟨gb213, 3, none⟩) (Kd.V_far (p := ⟨gb213, 2, none⟩) (Kd.V_far (p := ⟨gb213, 1, none⟩) (Kd.V_far (p := ⟨gb213, 0, none⟩) (V_fars (g := gb212) (Kd.V_mono (Kd.V_mono HO210.out (fun k_ hk => (⟨hk, hk.1.2⟩ : _ ∧ k_ ≠ gb212))) (fun k_ hk => (⟨hk, hk.1.2⟩ : _ ∧ k_ ≠ gb213))) (fun _ hk => hk.1.2)) (fun _ hk => hk.2) (.string t199)) (fun _ hk => hk.2) (.string t200)) (fun _ hk => hk.2) (.int .i64 t201)) (fun _ hk => hk.2) (.string t202)) (fun _ hk => hk.2) (.string t203)) (fun _ hk => hk.2) (.int .i64 t204)) (fun _ hk => hk.2) (.string t205)) (fun _ hk => hk.2) (.string t206)) (fun _ hk => hk.2) (.string t207)) (fun _ hk => hk.2) (.slice Ao29 t208.length co29)) (fun _ hk => hk.2) (.bool t211)) (fun _ h_ => h_.1)) (fun _ h_ => h_.1))) (Kd.R_base ho0) hb); replace BK185 := Aside0.mk (blk_below (g := gb185) (o := .cells #[.string a0_0, .string a0_1, .string a0_2, .slice A0_3 l0_3.length c0_3, .bool a0_4] 41 (0, 0)) (by (with_reducible repeat (first | refine blk_drewN ?_ _ | refine blk_drew ?_ | refine blk_alloc ?_ _)); refine blk_far ?_ NB185_213.out _; refine blk_far ?_ NB185_213.out _; refine blk_far ?_ NB185_213.out _; refine blk_far ?_ NB185_213.out _; refine blk_far ?_ NB185_213.out _; refine blk_far ?_ NB185_213.out _; refine blk_far ?_ NB185_213.out _; refine blk_far ?_ NB185_213.out _; refine blk_far ?_ NB185_213.out _; refine blk_far ?_ NB185_213.out _; refine blk_far ?_ NB185_213.out _; refine blk_far ?_ NB185_212.out _; refine blk_far ?_ NB185_212.out _; refine blk_far ?_ NB185_212.out _; refine blk_far ?_ NB185_212.out _; refine blk_far ?_ NB185_212.out _; refine blk_far ?_ NB185_212.out _; refine blk_far ?_ NB185_212.out _; refine blk_far ?_ NB185_212.out _; refine blk_far ?_ NB185_212.out _; refine blk_far ?_ NB185_212.out _; refine blk_far ?_ NB185_212.out _; (with_reducible repeat (first | refine blk_drewN ?_ _ | refine blk_drew ?_ | refine blk_alloc ?_ _)); exact BK185.out) hb); replace BK212 := Aside0.mk (blk_below (g := gb212) (o := .cells #[.string t186, .string t187, .int .i64 t188, .string t189, .string t190, .int .i64 t191, .string t192, .string t193, .string t194, .slice Ao26 t195.length co26, .bool t198] 47 (0, 0)) (by (with_reducible repeat (first | refine blk_drewN ?_ _ | refine blk_drew ?_ | refine blk_alloc ?_ _)); refine blk_far ?_ NB212_213.out _; refine blk_far ?_ NB212_213.out _; refine blk_far ?_ NB212_213.out _; refine blk_far ?_ NB212_213.out _; refine blk_far ?_ NB212_213.out _; refine blk_far ?_ NB212_213.out _; refine blk_far ?_ NB212_213.out _; refine blk_far ?_ NB212_213.out _; refine blk_far ?_ NB212_213.out _; refine blk_far ?_ NB212_213.out _; refine blk_far ?_ NB212_213.out _; refine blk_put (cs := #[.string t186, .string t187, .int .i64 t188, .string t189, .string t190, .int .i64 t191, .string t192, .string t193, .string t194, .slice Ao26 t195.length co26, .bool false]) ?_ 10 _ rfl; refine blk_put (cs := #[.string t186, .string t187, .int .i64 t188, .string t189, .string t190, .int .i64 t191, .string t192, .string t193, .string t194, .slice none 0 0, .bool false]) ?_ 9 _ rfl; refine blk_put (cs := #[.string t186, .string t187, .int .i64 t188, .string t189, .string t190, .int .i64 t191, .string t192, .string t193, .string (⟨#[]⟩ : ByteArray), .slice none 0 0, .bool false]) ?_ 8 _ rfl; refine blk_put (cs := #[.string t186, .string t187, .int .i64 t188, .string t189, .string t190, .int .i64 t191, .string t192, .string (⟨#[]⟩ : ByteArray), .string (⟨#[]⟩ : ByteArray), .slice none 0 0, .bool false]) ?_ 7 _ rfl; refine blk_put (cs := #[.string t186, .string t187, .int .i64 t188, .string t189, .string t190, .int .i64 t191, .string (⟨#[]⟩ : ByteArray), .string (⟨#[]⟩ : ByteArray), .string (⟨#[]⟩ : ByteArray), .slice none 0 0, .bool false]) ?_ 6 _ rfl; refine blk_put (cs := #[.string t186, .string t187, .int .i64 t188, .string t189, .string t190, .int .i64 0, .string (⟨#[]⟩ : ByteArray), .string (⟨#[]⟩ : ByteArray), .string (⟨#[]⟩ : ByteArray), .slice none 0 0, .bool false]) ?_ 5 _ rfl; refine blk_put (cs := #[.string t186, .string t187, .int .i64 t188, .string t189, .string (⟨#[]⟩ : ByteArray), .int .i64 0, .string (⟨#[]⟩ : ByteArray), .string (⟨#[]⟩ : ByteArray), .string (⟨#[]⟩ : ByteArray), .slice none 0 0, .bool false]) ?_ 4 _ rfl; refine blk_put (cs := #[.string t186, .string t187, .int .i64 t188, .string (⟨#[]⟩ : ByteArray), .string (⟨#[]⟩ : ByteArray), .int .i64 0, .string (⟨#[]⟩ : ByteArray), .string (⟨#[]⟩ : ByteArray), .string (⟨#[]⟩ : ByteArray), .slice none 0 0, .bool false]) ?_ 3 _ rfl; refine blk_put (cs := #[.string t186, .string t187, .int .i64 0, .string (⟨#[]⟩ : ByteArray), .string (⟨#[]⟩ : ByteArray), .int .i64 0, .string (⟨#[]⟩ : ByteArray), .string (⟨#[]⟩ : ByteArray), .string (⟨#[]⟩ : ByteArray), .slice none 0 0, .bool false]) ?_ 2 _ rfl; refine blk_put (cs := #[.string t186, .string (⟨#[]⟩ : ByteArray), .int .i64 0, .string (⟨#[]⟩ : ByteArray), .string (⟨#[]⟩ : ByteArray), .int .i64 0, .string (⟨#[]⟩ : ByteArray), .string (⟨#[]⟩ : ByteArray), .string (⟨#[]⟩ : ByteArray), .slice none 0 0, .bool false]) ?_ 1 _ rfl; refine blk_put (cs := #[.string (⟨#[]⟩ : ByteArray), .string (⟨#[]⟩ : ByteArray), .int .i64 0, .string (⟨#[]⟩ : ByteArray), .string (⟨#[]⟩ : ByteArray), .int .i64 0, .string (⟨#[]⟩ : ByteArray), .string (⟨#[]⟩ : ByteArray), .string (⟨#[]⟩ : ByteArray), .slice none 0 0, .bool false]) ?_ 0 _ rfl; (with_reducible repeat (first | refine blk_drewN ?_ _ | refine blk_drew ?_ | refine blk_alloc ?_ _)); exact BK212.out) hb); replace BK213 := Aside0.mk (blk_below (g := gb213) (o := .cells #[.string t199, .string t200, .int .i64 t201, .string t202, .string t203, .int .i64 t204, .string t205, .string t206, .string t207, .slice Ao29 t208.length co29, .bool t211] 48 (0, 0)) (by (with_reducible repeat (first | refine blk_drewN ?_ _ | refine blk_drew ?_ | refine blk_alloc ?_ _)); refine blk_put (cs := #[.string t199, .string t200, .int .i64 t201, .string t202, .string t203, .int .i64 t204, .string t205, .string t206, .string t207, .slice Ao29 t208.length co29, .bool false]) ?_ 10 _ rfl; refine blk_put (cs := #[.string t199, .string t200, .int .i64 t201, .string t202, .string t203, .int .i64 t204, .string t205, .string t206, .string t207, .slice none 0 0, .bool false]) ?_ 9 _ rfl; refine blk_put (cs := #[.string t199, .string t200, .int .i64 t201, .string t202, .string t203, .int .i64 t204, .string t205, .string t206, .string (⟨#[]⟩ : ByteArray), .slice none 0 0, .bool false]) ?_ 8 _ rfl; refine blk_put (cs := #[.string t199, .string t200, .int .i64 t201, .string t202, .string t203, .int .i64 t204, .string t205, .string (⟨#[]⟩ : ByteArray), .string (⟨#[]⟩ : ByteArray), .slice none 0 0, .bool false]) ?_ 7 _ rfl; refine blk_put (cs := #[.string t199, .string t200, .int .i64 t201, .string t202, .string t203, .int .i64 t204, .string (⟨#[]⟩ : ByteArray), .string (⟨#[]⟩ : ByteArray), .string (⟨#[]⟩ : ByteArray), .slice none 0 0, .bool false]) ?_ 6 _ rfl; refine blk_put (cs := #[.string t199, .string t200, .int .i64 t201, .string t202, .string t203, .int .i64 0, .string (⟨#[]⟩ : ByteArray), .string (⟨#[]⟩ : ByteArray), .string (⟨#[]⟩ : ByteArray), .slice none 0 0, .bool false]) ?_ 5 _ rfl; refine blk_put (cs := #[.string t199, .string t200, .int .i64 t201, .string t202, .string (⟨#[]⟩ : ByteArray), .int .i64 0, .string (⟨#[]⟩ : ByteArray), .string (⟨#[]⟩ : ByteArray), .string (⟨#[]⟩ : ByteArray), .slice none 0 0, .bool false]) ?_ 4 _ rfl; refine blk_put (cs := #[.string t199, .string t200, .int .i64 t201, .string (⟨#[]⟩ : ByteArray), .string (⟨#[]⟩ : ByteArray), .int .i64 0, .string (⟨#[]⟩ : ByteArray), .string (⟨#[]⟩ : ByteArray), .string (⟨#[]⟩ : ByteArray), .slice none 0 0, .bool false]) ?_ 3 _ rfl; refine blk_put (cs := #[.string t199, .string t200, .int .i64 0, .string (⟨#[]⟩ : ByteArray), .string (⟨#[]⟩ : ByteArray), .int .i64 0, .string (⟨#[]⟩ : ByteArray), .string (⟨#[]⟩ : ByteArray), .string (⟨#[]⟩ : ByteArray), .slice none 0 0, .bool false]) ?_ 2 _ rfl; refine blk_put (cs := #[.string t199, .string (⟨#[]⟩ : ByteArray), .int .i64 0, .string (⟨#[]⟩ : ByteArray), .string (⟨#[]⟩ : ByteArray), .int .i64 0, .string (⟨#[]⟩ : ByteArray), .string (⟨#[]⟩ : ByteArray), .string (⟨#[]⟩ : ByteArray), .slice none 0 0, .bool false]) ?_ 1 _ rfl; refine blk_put (cs := #[.string (⟨#[]⟩ : ByteArray), .string (⟨#[]⟩ : ByteArray), .int .i64 0, .string (⟨#[]⟩ : ByteArray), .string (⟨#[]⟩ : ByteArray), .int .i64 0, .string (⟨#[]⟩ : ByteArray), .string (⟨#[]⟩ : ByteArray), .string (⟨#[]⟩ : ByteArray), .slice none 0 0, .bool false]) ?_ 0 _ rfl; refine blk_far ?_ NB213_212.out _; refine blk_far ?_ NB213_212.out _; refine blk_far ?_ NB213_212.out _; refine blk_far ?_ NB213_212.out _; refine blk_far ?_ NB213_212.out _; refine blk_far ?_ NB213_212.out _; refine blk_far ?_ NB213_212.out _; refine blk_far ?_ NB213_212.out _; refine blk_far ?_ NB213_212.out _; refine blk_far ?_ NB213_212.out _; refine blk_far ?_ NB213_212.out _; (with_reducible repeat (first | refine blk_drewN ?_ _ | refine blk_drew ?_ | refine blk_alloc ?_ _)); exact BK213.out) hb); replace HB := Aside0.mk (below_step (by repeat (first | (with_reducible first | exact HB.out | apply below_alloc | apply pw_below_drewN | apply below_drew1 | refine below_set ?_ GE185.out | refine below_set ?_ GE212.out | refine below_set ?_ GE213.out) | exact HB.out)) hb); (try clear hb); (try clear hb2); (try clear hk); (try clear hi); (try clear ho0)) | ((with_reducible refine gate_dst (N := 5) rfl ?_); refine box_event ?hg (N := 5) ?hd (cs := #[.string (⟨#[]⟩ : ByteArray), .string (⟨#[]⟩ : ByteArray), .slice none 0 0]) (t := 52) ?hr ?_; (case hd => rfl); (case hg => rfl); (case hr => first | (go_simp; done) | (go_simp; rfl)); intro gb219 hg w31 hbox hb; have BK219 := Aside0.mk (hbox); have GW219 := Aside0.mk ((by rw [hg]; exact (below_size (by repeat (first | (with_reducible first | exact HB.out | apply below_alloc | apply pw_below_drewN | apply below_drew1 | refine below_set ?_ GE185.out | refine below_set ?_ GE212.out | refine below_set ?_ GE213.out) | exact HB.out))) : w.heap.size ≤ gb219)); have GE219 := Aside0.mk ((by rw [hg]; exact (below_size (by repeat (first | (with_reducible first | exact HB.out | apply below_alloc | apply pw_below_drewN | apply below_drew1 | refine below_set ?_ GE185.out | refine below_set ?_ GE212.out | refine below_set ?_ GE213.out) | exact HB.out))) : w.heap.size ≤ gb219)); have NB185_219 := Aside0.mk ((by rw [hg]; exact Nat.ne_of_lt (blk_lt (blk_later BK185.out)) : gb185 ≠ gb219)); have NB219_185 := Aside0.mk ((by rw [hg]; exact Nat.ne_of_gt (blk_lt (blk_later BK185.out)) : gb219 ≠ gb185)); have NB212_219 := Aside0.mk ((by rw [hg]; exact Nat.ne_of_lt (blk_lt (blk_later BK212.out)) : gb212 ≠ gb219)); have NB219_212 := Aside0.mk ((by rw [hg]; exact Nat.ne_of_gt (blk_lt (blk_later BK212.out)) : gb219 ≠ gb212)); have NB213_219 := Aside0.mk ((by rw [hg]; exact Nat.ne_of_lt (blk_lt (blk_later BK213.out)) : gb213 ≠ gb219)); have NB219_213 := Aside0.mk ((by rw [hg]; exact Nat.ne_of_gt (blk_lt (blk_later BK213.out)) : gb219 ≠ gb213)); replace HO197 := Aside0.mk (Kd.V_below (Kd.V_elderB (V_later HO197.out) gb219 (Nat.le_of_eq hg.symm)) hb); replace HO210 := Aside0.mk (Kd.V_below (Kd.V_elderB (V_later HO210.out) gb219 (Nat.le_of_eq hg.symm)) hb); replace HO218 := Aside0.mk (Kd.R_below (R_later HO218.out) hb); replace BK185 := Aside0.mk (blk_below (blk_later BK185.out) hb); replace BK212 := Aside0.mk (blk_below (blk_later BK212.out) hb); replace BK213 := Aside0.mk (blk_below (blk_later BK213.out) hb); replace HB := Aside0.mk (below_step (by repeat (first | (with_reducible first | exact HB.out | apply below_alloc | apply pw_below_drewN | apply below_drew1 | refine below_set ?_ GE185.out | refine below_set ?_ GE212.out | refine below_set ?_ GE213.out) | exact HB.out)) hb); clear hb hbox hg; have hnb32 := NB219_185.out; have hnc32 := NB185_219.out; have hnb33 := NB219_212.out; have hnc33 := NB212_219.out; have hnb34 := NB219_213.out; have hnc34 := NB213_219.out; have hq8 := fun j => blk_cell BK219.out j; have hq19 := fun j => blk_frozen BK219.out j; obtain ⟨Ao36, co36, eo36⟩ := Kd.R_slice HO218.out; subst eo36; have hq9 := fun j => blk_cell BK213.out j; have hq20 := fun j => blk_frozen BK213.out j) | ((with_reducible refine gate_callee (f := 20) rfl ?_); refine goesL_ (some 16) rfl rfl Tryd.func20 (by kernel_rfl) rfl #[.agg #[.string t199, .string t200, .int .i64 t201, .string t202, .string t203, .int .i64 t204, .string t205, .string t206, .string t207, .slice Ao29 t208.length co29, .bool t211]] rfl (by (try simp only [List.map_toArray, List.map_cons, List.map_nil]); first | done | rfl) ?_; (with_reducible refine (r17_Request.calls k t199 t200 t201 t202 t203 t204 t205 t206 t207 _ _ t208 t211 t220 t221 t222 _ ?side1 ?side2 A4.out).mono ?_); (case side1 => refine (Kd.V_reads' (e := 9) (base := w.heap.size) (ok := fun k_ => ((((k_ ≠ gb185 ∧ k_ ≠ gb212) ∧ k_ ≠ gb213) ∧ some k_ ≠ (.slice Ao36 t216.length co36 : Value).ownBlock) ∧ k_ ≠ gb219)) (n := t208.length) (c := co29) ?_).2.2; exact (by (with_reducible repeat (first | apply Kd.V_alloc | apply Kd.V_drewN | apply Kd.V_drew)); exact (Kd.V_mono (V_fars (g := gb219) (Kd.V_mono HO210.out (fun k_ hk => (⟨hk, hk.2⟩ : _ ∧ k_ ≠ gb219))) (fun _ hk => hk.2)) (fun _ h_ => h_.1)))); (case side2 => exact (Kd.V_reads' HO210.out).2.1); rintro e w38 ⟨v223, rfl, ho0, hb⟩; refine ⟨_, rfl, ?_⟩; have HO224 := Aside0.mk (Kd.R_lower (Kd.R_new' ho0 (Kd.R_lt (by (with_reducible repeat (first | apply Kd.R_alloc | apply Kd.R_drewN | apply Kd.R_drew)); exact (Kd.R_mono (R_fars (g := gb219) (Kd.R_types HO218.out BK219.out (by decide)) (fun _ hk => hk.2)) (fun _ h_ => h_.1))))) (below_size (by repeat (first | (with_reducible first | exact HB.out | apply below_alloc | apply pw_below_drewN | apply below_drew1 | refine below_set ?_ GE185.out | refine below_set ?_ GE212.out | refine below_set ?_ GE213.out | refine below_set ?_ GE219.out) | exact HB.out)))); replace HO197 := Aside0.mk (Kd.V_elder' (by (with_reducible repeat (first | apply Kd.V_alloc | apply Kd.V_drewN | apply Kd.V_drew)); exact (Kd.V_mono (V_fars (g := gb219) (Kd.V_mono HO197.out (fun k_ hk => (⟨hk, hk.2⟩ : _ ∧ k_ ≠ gb219))) (fun _ hk => hk.2)) (fun _ h_ => h_.1))) (Kd.R_base ho0) hb); replace HO210 := Aside0.mk (Kd.V_elder' (by (with_reducible repeat (first | apply Kd.V_alloc | apply Kd.V_drewN | apply Kd.V_drew)); exact (Kd.V_mono (V_fars (g := gb219) (Kd.V_mono HO210.out (fun k_ hk => (⟨hk, hk.2⟩ : _ ∧ k_ ≠ gb219))) (fun _ hk => hk.2)) (fun _ h_ => h_.1))) (Kd.R_base ho0) hb); replace HO218 := Aside0.mk (Kd.R_elder' (by (with_reducible repeat (first | apply Kd.R_alloc | apply Kd.R_drewN | apply Kd.R_drew)); exact (Kd.R_mono (R_fars (g := gb219) (Kd.R_types HO218.out BK219.out (by decide)) (fun _ hk => hk.2)) (fun _ h_ => h_.1))) (Kd.R_base ho0) hb); replace BK185 := Aside0.mk (blk_below (g := gb185) (o := .cells #[.string a0_0, .string a0_1, .string a0_2, .slice A0_3 l0_3.length c0_3, .bool a0_4] 41 (0, 0)) (by (with_reducible repeat (first | refine blk_drewN ?_ _ | refine blk_drew ?_ | refine blk_alloc ?_ _)); refine blk_far ?_ NB185_219.out _; refine blk_far ?_ NB185_219.out _; refine blk_far ?_ NB185_219.out _; (with_reducible repeat (first | refine blk_drewN ?_ _ | refine blk_drew ?_ | refine blk_alloc ?_ _)); exact BK185.out) hb); replace BK212 := Aside0.mk (blk_below (g := gb212) (o := .cells #[.string t186, .string t187, .int .i64 t188, .string t189, .string t190, .int .i64 t191, .string t192, .string t193, .string t194, .slice Ao26 t195.length co26, .bool t198] 47 (0, 0)) (by (with_reducible repeat (first | refine blk_drewN ?_ _ | refine blk_drew ?_ | refine blk_alloc ?_ _)); refine blk_far ?_ NB212_219.out _; refine blk_far ?_ NB212_219.out _; refine blk_far ?_ NB212_219.out _; (with_reducible repeat (first | refine blk_drewN ?_ _ | refine blk_drew ?_ | refine blk_alloc ?_ _)); exact BK212.out) hb); replace BK213 := Aside0.mk (blk_below (g := gb213) (o := .cells #[.string t199, .string t200, .int .i64 t201, .string t202, .string t203, .int .i64 t204, .string t205, .string t206, .string t207, .slice Ao29 t208.length co29, .bool t211] 48 (0, 0)) (by (with_reducible repeat (first | refine blk_drewN ?_ _ | refine blk_drew ?_ | refine blk_alloc ?_ _)); refine blk_far ?_ NB213_219.out _; refine blk_far ?_ NB213_219.out _; refine blk_far ?_ NB213_219.out _; (with_reducible repeat (first | refine blk_drewN ?_ _ | refine blk_drew ?_ | refine blk_alloc ?_ _)); exact BK213.out) hb); replace BK219 := Aside0.mk (blk_below (g := gb219) (o := .cells #[.string t214, .string t215, .slice Ao36 t216.length co36] 52 (0, 0)) (blk_sets BK219.out) hb); replace HB := Aside0.mk (below_step (by repeat (first | (with_reducible first | exact HB.out | apply below_alloc | apply pw_below_drewN | apply below_drew1 | refine below_set ?_ GE185.out | refine below_set ?_ GE212.out | refine below_set ?_ GE213.out | refine below_set ?_ GE219.out) | exact HB.out)) hb); (try clear hb); (try clear hb2); (try clear hk); (try clear hi); (try clear ho0)) | ((with_reducible refine gate_dst (N := 6) rfl ?_); refine box_event ?hg (N := 6) ?hd (cs := #[.string (⟨#[]⟩ : ByteArray), .string (⟨#[]⟩ : ByteArray), .slice none 0 0]) (t := 52) ?hr ?_; (case hd => rfl); (case hg => rfl); (case hr => first | (go_simp; done) | (go_simp; rfl)); intro gb225 hg w39 hbox hb; have BK225 := Aside0.mk (hbox); have GW225 := Aside0.mk ((by rw [hg]; exact (below_size (by repeat (first | (with_reducible first | exact HB.out | apply below_alloc | apply pw_below_drewN | apply below_drew1 | refine below_set ?_ GE185.out | refine below_set ?_ GE212.out | refine below_set ?_ GE213.out | refine below_set ?_ GE219.out) | exact HB.out))) : w.heap.size ≤ gb225)); have GE225 := Aside0.mk ((by rw [hg]; exact (below_size (by repeat (first | (with_reducible first | exact HB.out | apply below_alloc | apply pw_below_drewN | apply below_drew1 | refine below_set ?_ GE185.out | refine below_set ?_ GE212.out | refine below_set ?_ GE213.out | refine below_set ?_ GE219.out) | exact HB.out))) : w.heap.size ≤ gb225)); have NB185_225 := Aside0.mk ((by rw [hg]; exact Nat.ne_of_lt (blk_lt (blk_later BK185.out)) : gb185 ≠ gb225)); have NB225_185 := Aside0.mk ((by rw [hg]; exact Nat.ne_of_gt (blk_lt (blk_later BK185.out)) : gb225 ≠ gb185)); have NB212_225 := Aside0.mk ((by rw [hg]; exact Nat.ne_of_lt (blk_lt (blk_later BK212.out)) : gb212 ≠ gb225)); have NB225_212 := Aside0.mk ((by rw [hg]; exact Nat.ne_of_gt (blk_lt (blk_later BK212.out)) : gb225 ≠ gb212)); have NB213_225 := Aside0.mk ((by rw [hg]; exact Nat.ne_of_lt (blk_lt (blk_later BK213.out)) : gb213 ≠ gb225)); have NB225_213 := Aside0.mk ((by rw [hg]; exact Nat.ne_of_gt (blk_lt (blk_later BK213.out)) : gb225 ≠ gb213)); have NB219_225 := Aside0.mk ((by rw [hg]; exact Nat.ne_of_lt (blk_lt (blk_later BK219.out)) : gb219 ≠ gb225)); have NB225_219 := Aside0.mk ((by rw [hg]; exact Nat.ne_of_gt (blk_lt (blk_later BK219.out)) : gb225 ≠ gb219)); replace HO197 := Aside0.mk (Kd.V_below (Kd.V_elderB (V_later HO197.out) gb225 (Nat.le_of_eq hg.symm)) hb); replace HO210 := Aside0.mk (Kd.V_below (Kd.V_elderB (V_later HO210.out) gb225 (Nat.le_of_eq hg.symm)) hb); replace HO218 := Aside0.mk (Kd.R_below (R_later HO218.out) hb); replace HO224 := Aside0.mk (Kd.R_below (R_later HO224.out) hb); replace BK185 := Aside0.mk (blk_below (blk_later BK185.out) hb); replace BK212 := Aside0.mk (blk_below (blk_later BK212.out) hb); replace BK213 := Aside0.mk (blk_below (blk_later BK213.out) hb); replace BK219 := Aside0.mk (blk_below (blk_later BK219.out) hb); replace HB := Aside0.mk (below_step (by repeat (first | (with_reducible first | exact HB.out | apply below_alloc | apply pw_below_drewN | apply below_drew1 | refine below_set ?_ GE185.out | refine below_set ?_ GE212.out | refine below_set ?_ GE213.out | refine below_set ?_ GE219.out) | exact HB.out)) hb); clear hb hbox hg; have hnb40 := NB225_185.out; have hnc40 := NB185_225.out; have hnb41 := NB225_212.out; have hnc41 := NB212_225.out; have hnb42 := NB225_213.out; have hnc42 := NB213_225.out; have hnb43 := NB225_219.out; have hnc43 := NB219_225.out; have hq10 := fun j => blk_cell BK225.out j; have hq21 := fun j => blk_frozen BK225.out j; obtain ⟨Ao45, co45, eo45⟩ := Kd.R_slice HO224.out; subst eo45; have hq11 := fun j => blk_cell BK219.out j; have hq22 := fun j => blk_frozen BK219.out j) | ((with_reducible refine gate_callee (f := 21) rfl ?_); refine goesL_ (some 18) rfl rfl Tryd.func21 (by kernel_rfl) rfl #[.agg #[.string t214, .string t215, .slice Ao36 t216.length co36]] rfl (by (try simp only [List.map_toArray, List.map_cons, List.map_nil]); first | done | rfl) ?_; (with_reducible refine (r14_May.calls k t214 t215 _ _ t216 true _ ?side1 ?side2 A5.out).mono ?_); (case side1 => refine (Kd.R_reads' (e := 25) (base := w.heap.size) (ok := fun k_ => (True ∧ some k_ ≠ (.slice Ao45 t222.length co45 : Value).ownBlock)) (n := t216.length) (c := co36) ?_).2.2; exact (by (with_reducible repeat (first | apply Kd.R_alloc | apply Kd.R_drewN | apply Kd.R_drew)); exact (Kd.R_mono (R_fars (g := gb225) (Kd.R_types HO218.out BK225.out (by decide)) (fun _ hk => hk.2)) (fun _ h_ => h_.1)))); (case side2 => exact (Kd.R_reads' HO218.out).2.1); rintro e w47 ⟨rfl, hb⟩; refine ⟨_, rfl, ?_⟩; replace HO197 := Aside0.mk (Kd.V_below (by (with_reducible repeat (first | apply Kd.V_alloc | apply Kd.V_drewN | apply Kd.V_drew)); exact (Kd.V_mono (V_fars (g := gb225) (Kd.V_mono HO197.out (fun k_ hk => (⟨hk, hk.2⟩ : _ ∧ k_ ≠ gb225))) (fun _ hk => hk.2)) (fun _ h_ => h_.1))) hb); replace HO210 := Aside0.mk (Kd.V_below (by (with_reducible repeat (first | apply Kd.V_alloc | apply Kd.V_drewN | apply Kd.V_drew)); exact (Kd.V_mono (V_fars (g := gb225) (Kd.V_mono HO210.out (fun k_ hk => (⟨hk, hk.2⟩ : _ ∧ k_ ≠ gb225))) (fun _ hk => hk.2)) (fun _ h_ => h_.1))) hb); replace HO218 := Aside0.mk (Kd.R_below (by (with_reducible repeat (first | apply Kd.R_alloc | apply Kd.R_drewN | apply Kd.R_drew)); exact (Kd.R_mono (R_fars (g := gb225) (Kd.R_types HO218.out BK225.out (by decide)) (fun _ hk => hk.2)) (fun _ h_ => h_.1))) hb); replace HO224 := Aside0.mk (Kd.R_below (by (with_reducible repeat (first | apply Kd.R_alloc | apply Kd.R_drewN | apply Kd.R_drew)); exact (Kd.R_mono (R_fars (g := gb225) (Kd.R_types HO224.out BK225.out (by decide)) (fun _ hk => hk.2)) (fun _ h_ => h_.1))) hb); replace BK185 := Aside0.mk (blk_below (g := gb185) (o := .cells #[.string a0_0, .string a0_1, .string a0_2, .slice A0_3 l0_3.length c0_3, .bool a0_4] 41 (0, 0)) (by (with_reducible repeat (first | refine blk_drewN ?_ _ | refine blk_drew ?_ | refine blk_alloc ?_ _)); refine blk_far ?_ NB185_225.out _; refine blk_far ?_ NB185_225.out _; refine blk_far ?_ NB185_225.out _; (with_reducible repeat (first | refine blk_drewN ?_ _ | refine blk_drew ?_ | refine blk_alloc ?_ _)); exact BK185.out) hb); replace BK212 := Aside0.mk (blk_below (g := gb212) (o := .cells #[.string t186, .string t187, .int .i64 t188, .string t189, .string t190, .int .i64 t191, .string t192, .string t193, .string t194, .slice Ao26 t195.length co26, .bool t198] 47 (0, 0)) (by (with_reducible repeat (first | refine blk_drewN ?_ _ | refine blk_drew ?_ | refine blk_alloc ?_ _)); refine blk_far ?_ NB212_225.out _; refine blk_far ?_ NB212_225.out _; refine blk_far ?_ NB212_225.out _; (with_reducible repeat (first | refine blk_drewN ?_ _ | refine blk_drew ?_ | refine blk_alloc ?_ _)); exact BK212.out) hb); replace BK213 := Aside0.mk (blk_below (g := gb213) (o := .cells #[.string t199, .string t200, .int .i64 t201, .string t202, .string t203, .int .i64 t204, .string t205, .string t206, .string t207, .slice Ao29 t208.length co29, .bool t211] 48 (0, 0)) (by (with_reducible repeat (first | refine blk_drewN ?_ _ | refine blk_drew ?_ | refine blk_alloc ?_ _)); refine blk_far ?_ NB213_225.out _; refine blk_far ?_ NB213_225.out _; refine blk_far ?_ NB213_225.out _; (with_reducible repeat (first | refine blk_drewN ?_ _ | refine blk_drew ?_ | refine blk_alloc ?_ _)); exact BK213.out) hb); replace BK219 := Aside0.mk (blk_below (g := gb219) (o := .cells #[.string t214, .string t215, .slice Ao36 t216.length co36] 52 (0, 0)) (by (with_reducible repeat (first | refine blk_drewN ?_ _ | refine blk_drew ?_ | refine blk_alloc ?_ _)); refine blk_far ?_ NB219_225.out _; refine blk_far ?_ NB219_225.out _; refine blk_far ?_ NB219_225.out _; (with_reducible repeat (first | refine blk_drewN ?_ _ | refine blk_drew ?_ | refine blk_alloc ?_ _)); exact BK219.out) hb); replace BK225 := Aside0.mk (blk_below (g := gb225) (o := .cells #[.string t220, .string t221, .slice Ao45 t222.length co45] 52 (0, 0)) (blk_sets BK225.out) hb); replace HB := Aside0.mk (below_step (by repeat (first | (with_reducible first | exact HB.out | apply below_alloc | apply pw_below_drewN | apply below_drew1 | refine below_set ?_ GE185.out | refine below_set ?_ GE212.out | refine below_set ?_ GE213.out | refine below_set ?_ GE219.out | refine below_set ?_ GE225.out) | exact HB.out)) hb); (try clear hb); (try clear hb2); (try clear hk); (try clear hi)))
       replace HO197 := Aside0.mk (Kd.V_drew HO197.out)
       replace HO210 := Aside0.mk (Kd.V_drew HO210.out)
       replace HO218 := Aside0.mk (Kd.R_drew HO218.out)
       replace HO224 := Aside0.mk (Kd.R_drew HO224.out)
       replace BK185 := Aside0.mk (blk_drew BK185.out)
       replace BK212 := Aside0.mk (blk_drew BK212.out)
       replace BK213 := Aside0.mk (blk_drew BK213.out)
       replace BK219 := Aside0.mk (blk_drew BK219.out)
       replace BK225 := Aside0.mk (blk_drew BK225.out)
       replace HB := Aside0.mk (below_drew1 HB.out)
       refine start_ (n := 44) (S := fun w' => w'.cell? ⟨gb219, 0, none⟩ = some (.string t214) ∧ w'.cell? ⟨gb219, 1, none⟩ = some (.string t215) ∧ w'.cell? ⟨gb219, 2, none⟩ = some (.slice Ao36 t216.length co36) ∧ w'.cell? ⟨gb225, 0, none⟩ = some (.string t220) ∧ w'.cell? ⟨gb225, 1, none⟩ = some (.string t221) ∧ w'.cell? ⟨gb225, 2, none⟩ = some (.slice Ao45 t222.length co45) ∧ w'.cell? ⟨gb212, 0, none⟩ = some (.string t186) ∧ w'.cell? ⟨gb212, 1, none⟩ = some (.string t187) ∧ w'.cell? ⟨gb212, 2, none⟩ = some (.int .i64 t188) ∧ w'.cell? ⟨gb212, 3, none⟩ = some (.string t189) ∧ w'.cell? ⟨gb212, 4, none⟩ = some (.string t190) ∧ w'.cell? ⟨gb212, 5, none⟩ = some (.int .i64 t191) ∧ w'.cell? ⟨gb212, 6, none⟩ = some (.string t192) ∧ w'.cell? ⟨gb212, 7, none⟩ = some (.string t193) ∧ w'.cell? ⟨gb212, 8, none⟩ = some (.string t194) ∧ w'.cell? ⟨gb212, 9, none⟩ = some (.slice Ao26 t195.length co26) ∧ w'.cell? ⟨gb212, 10, none⟩ = some (.bool t198) ∧ w'.cell? ⟨gb185, 0, none⟩ = some (.string a0_0) ∧ w'.cell? ⟨gb185, 1, none⟩ = some (.string a0_1) ∧ w'.cell? ⟨gb185, 2, none⟩ = some (.string a0_2) ∧ w'.cell? ⟨gb185, 3, none⟩ = some (.slice A0_3 l0_3.length c0_3) ∧ w'.cell? ⟨gb185, 4, none⟩ = some (.bool a0_4)) (ds := []) #[false, false, false, false, false, false, false, false, false, false, false, false, false, false, false, false, false, false, false, false, false, false, false, false, false, false, false, false, false, false, false, false, false, false, false, false, false, false, false, false, false, false, false, false] (by kernel_rfl) rfl rfl (by and_intros <;> first | exact (blk_cell BK219.out _).trans rfl | exact (blk_cell BK225.out _).trans rfl | exact (blk_cell BK212.out _).trans rfl | exact (blk_cell BK185.out _).trans rfl) (fun hHeld => ?_); refine with_tabW w17_PreflightAsks.tab5 w17_PreflightAsks.bits5 (fun HT_ HW_ => ?_)
       generalize w47.drew = w48 at HO197 HO210 HO218 HO224 BK185 BK212 BK213 BK219 BK225 HB hHeld ⊢
       refine pure_ (i := 0) (N := some 19) (v := ?_) (a' := ?_) #[true, false, false, false, false, false, false, false, false, false, false, false, false, false, false, false, false, false, false, false, false, false, false, false, false, false, false, false, false, false, false, false, false, false, false, false, false, false, false, false, false, false, false, false] rfl rfl (any_of HT_.out (by kernel_rfl)) (fun _ _ _ h => h) (Or.inl ⟨by rfl, ?_⟩) ?_ ?_
       rotate_left
       ·intro w'
        go_simp
        with_reducible rfl
       rotate_left
       ·simp only [Act.put, List.setIfInBounds_toArray, List.set_cons_zero, List.set_cons_succ, i64_w, i32_w]
        rfl
       refine pure_ (i := 2) (N := some 21) (v := ?_) (a' := ?_) #[true, false, true, false, false, false, false, false, false, false, false, false, false, false, false, false, false, false, false, false, false, false, false, false, false, false, false, false, false, false, false, false, false, false, false, false, false, false, false, false, false, false, false, false] rfl rfl (any_of HT_.out (by kernel_rfl)) (fun _ _ _ h => h) (Or.inl ⟨by rfl, ?_⟩) ?_ ?_
       rotate_left
       ·intro w'
        go_simp
        with_reducible rfl
       rotate_left
       ·simp only [Act.put, List.setIfInBounds_toArray, List.set_cons_zero, List.set_cons_succ, i64_w, i32_w]
        rfl
       refine take_ (i := 1) (N := some 20) (v := ?_) (a' := ?_) #[true, true, true, false, false, false, false, false, false, false, false, false, false, false, false, false, false, false, false, false, false, false, false, false, false, false, false, false, false, false, false, false, false, false, false, false, false, false, false, false, false, false, false, false] rfl rfl (take_ofW HT_.out HW_.out (by kernel_rfl)) (fun _ _ _ h => h) (Or.inl ⟨by rfl, ?_⟩) hHeld ?_ ?_
       rotate_left
       ·rintro w' ⟨s0, s1, s2, s3, s4, s5, s6, s7, s8, s9, s10, s11, s12, s13, s14, s15, s16, s17, s18, s19, s20, s21⟩
        go_simp
        with_reducible rfl
       rotate_left
       ·simp only [Act.put, List.setIfInBounds_toArray, List.set_cons_zero, List.set_cons_succ, i64_w, i32_w]
        rfl
       refine take_ (i := 3) (N := some 22) (v := ?_) (a' := ?_) #[true, true, true, true, false, false, false, false, false, false, false, false, false, false, false, false, false, false, false, false, false, false, false, false, false, false, false, false, false, false, false, false, false, false, false, false, false, false, false, false, false, false, false, false] rfl rfl (take_ofW HT_.out HW_.out (by kernel_rfl)) (fun _ _ _ h => h) (Or.inl ⟨by rfl, ?_⟩) hHeld ?_ ?_
       rotate_left
       ·rintro w' ⟨s0, s1, s2, s3, s4, s5, s6, s7, s8, s9, s10, s11, s12, s13, s14, s15, s16, s17, s18, s19, s20, s21⟩
        go_simp
        with_reducible rfl
       rotate_left
       ·simp only [Act.put, List.setIfInBounds_toArray, List.set_cons_zero, List.set_cons_succ, i64_w, i32_w]
        rfl
       refine pure_ (i := 4) (N := some 23) (v := ?_) (a' := ?_) #[true, true, true, true, true, false, false, false, false, false, false, false, false, false, false, false, false, false, false, false, false, false, false, false, false, false, false, false, false, false, false, false, false, false, false, false, false, false, false, false, false, false, false, false] rfl rfl (any_of HT_.out (by kernel_rfl)) (fun _ _ _ h => h) (Or.inl ⟨by rfl, ?_⟩) ?_ ?_
       rotate_left
       ·intro w'
        go_simp
        with_reducible rfl
       rotate_left
       ·simp only [Act.put, List.setIfInBounds_toArray, List.set_cons_zero, List.set_cons_succ, i64_w, i32_w]
        rfl
       refine pure_ (i := 5) (N := some 24) (v := ?_) (a' := ?_) #[true, true, true, true, true, true, false, false, false, false, false, false, false, false, false, false, false, false, false, false, false, false, false, false, false, false, false, false, false, false, false, false, false, false, false, false, false, false, false, false, false, false, false, false] rfl rfl (any_of HT_.out (by kernel_rfl)) (fun _ _ _ h => h) (Or.inl ⟨by rfl, ?_⟩) ?_ ?_
       rotate_left
       ·intro w'
        go_simp
        with_reducible rfl
       rotate_left
       ·simp only [Act.put, List.setIfInBounds_toArray, List.set_cons_zero, List.set_cons_succ, i64_w, i32_w]
        rfl
       refine pure_ (i := 6) (N := some 25) (v := ?_) (a' := ?_) #[true, true, true, true, true, true, true, false, false, false, false, false, false, false, false, false, false, false, false, false, false, false, false, false, false, false, false, false, false, false, false, false, false, false, false, false, false, false, false, false, false, false, false, false] rfl rfl (any_of HT_.out (by kernel_rfl)) (fun _ _ _ h => h) (Or.inl ⟨by rfl, ?_⟩) ?_ ?_
       rotate_left
       ·intro w'
        go_simp
        with_reducible rfl
       rotate_left
       ·simp only [Act.put, List.setIfInBounds_toArray, List.set_cons_zero, List.set_cons_succ, i64_w, i32_w]
        rfl
       refine pure_ (i := 8) (N := some 27) (v := ?_) (a' := ?_) #[true, true, true, true, true, true, true, false, true, false, false, false, false, false, false, false, false, false, false, false, false, false, false, false, false, false, false, false, false, false, false, false, false, false, false, false, false, false, false, false, false, false, false, false] rfl rfl (any_of HT_.out (by kernel_rfl)) (fun _ _ _ h => h) (Or.inl ⟨by rfl, ?_⟩) ?_ ?_
       rotate_left
       ·intro w'
        go_simp
        with_reducible rfl
       rotate_left
       ·simp only [Act.put, List.setIfInBounds_toArray, List.set_cons_zero, List.set_cons_succ, i64_w, i32_w]
        rfl
       refine take_ (i := 7) (N := some 26) (v := ?_) (a' := ?_) #[true, true, true, true, true, true, true, true, true, false, false, false, false, false, false, false, false, false, false, false, false, false, false, false, false, false, false, false, false, false, false, false, false, false, false, false, false, false, false, false, false, false, false, false] rfl rfl (take_ofW HT_.out HW_.out (by kernel_rfl)) (fun _ _ _ h => h) (Or.inl ⟨by rfl, ?_⟩) hHeld ?_ ?_
       rotate_left
       ·rintro w' ⟨s0, s1, s2, s3, s4, s5, s6, s7, s8, s9, s10, s11, s12, s13, s14, s15, s16, s17, s18, s19, s20, s21⟩
        go_simp
        with_reducible rfl
       rotate_left
       ·simp only [Act.put, List.setIfInBounds_toArray, List.set_cons_zero, List.set_cons_succ, i64_w, i32_w]
        rfl
       refine take_ (i := 9) (N := some 28) (v := ?_) (a' := ?_) #[true, true, true, true, true, true, true, true, true, true, false, false, false, false, false, false, false, false, false, false, false, false, false, false, false, false, false, false, false, false, false, false, false, false, false, false, false, false, false, false, false, false, false, false] rfl rfl (take_ofW HT_.out HW_.out (by kernel_rfl)) (fun _ _ _ h => h) (Or.inl ⟨by rfl, ?_⟩) hHeld ?_ ?_
       rotate_left
       ·rintro w' ⟨s0, s1, s2, s3, s4, s5, s6, s7, s8, s9, s10, s11, s12, s13, s14, s15, s16, s17, s18, s19, s20, s21⟩
        go_simp
        with_reducible rfl
       rotate_left
       ·simp only [Act.put, List.setIfInBounds_toArray, List.set_cons_zero, List.set_cons_succ, i64_w, i32_w]
        rfl
       refine pure_ (i := 10) (N := some 29) (v := ?_) (a' := ?_) #[true, true, true, true, true, true, true, true, true, true, true, false, false, false, false, false, false, false, false, false, false, false, false, false, false, false, false, false, false, false, false, false, false, false, false, false, false, false, false, false, false, false, false, false] rfl rfl (any_of HT_.out (by kernel_rfl)) (fun _ _ _ h => h) (Or.inl ⟨by rfl, ?_⟩) ?_ ?_
       rotate_left
       ·intro w'
        go_simp
        with_reducible rfl
       rotate_left
       ·simp only [Act.put, List.setIfInBounds_toArray, List.set_cons_zero, List.set_cons_succ, i64_w, i32_w]
        rfl
       refine pure_ (i := 11) (N := some 30) (v := ?_) (a' := ?_) #[true, true, true, true, true, true, true, true, true, true, true, true, false, false, false, false, false, false, false, false, false, false, false, false, false, false, false, false, false, false, false, false, false, false, false, false, false, false, false, false, false, false, false, false] rfl rfl (any_of HT_.out (by kernel_rfl)) (fun _ _ _ h => h) (Or.inl ⟨by rfl, ?_⟩) ?_ ?_
       rotate_left
       ·intro w'
        go_simp
        with_reducible rfl
       rotate_left
       ·simp only [Act.put, List.setIfInBounds_toArray, List.set_cons_zero, List.set_cons_succ, i64_w, i32_w]
        rfl
       refine pure_ (i := 12) (N := some 31) (v := ?_) (a' := ?_) #[true, true, true, true, true, true, true, true, true, true, true, true, true, false, false, false, false, false, false, false, false, false, false, false, false, false, false, false, false, false, false, false, false, false, false, false, false, false, false, false, false, false, false, false] rfl rfl (any_of HT_.out (by kernel_rfl)) (fun _ _ _ h => h) (Or.inl ⟨by rfl, ?_⟩) ?_ ?_
       rotate_left
       ·intro w'
        go_simp
        with_reducible rfl
       rotate_left
       ·simp only [Act.put, List.setIfInBounds_toArray, List.set_cons_zero, List.set_cons_succ, i64_w, i32_w]
        rfl
       refine pure_ (i := 13) (N := some 32) (v := ?_) (a' := ?_) #[true, true, true, true, true, true, true, true, true, true, true, true, true, true, false, false, false, false, false, false, false, false, false, false, false, false, false, false, false, false, false, false, false, false, false, false, false, false, false, false, false, false, false, false] rfl rfl (any_of HT_.out (by kernel_rfl)) (fun _ _ _ h => h) (Or.inl ⟨by rfl, ?_⟩) ?_ ?_
       rotate_left
       ·intro w'
        go_simp
        with_reducible rfl
       rotate_left
       ·simp only [Act.put, List.setIfInBounds_toArray, List.set_cons_zero, List.set_cons_succ, i64_w, i32_w]
        rfl
       refine pure_ (i := 15) (N := some 34) (v := ?_) (a' := ?_) #[true, true, true, true, true, true, true, true, true, true, true, true, true, true, false, true, false, false, false, false, false, false, false, false, false, false, false, false, false, false, false, false, false, false, false, false, false, false, false, false, false, false, false, false] rfl rfl (any_of HT_.out (by kernel_rfl)) (fun _ _ _ h => h) (Or.inl ⟨by rfl, ?_⟩) ?_ ?_
       rotate_left
       ·intro w'
        go_simp
        with_reducible rfl
       rotate_left
       ·simp only [Act.put, List.setIfInBounds_toArray, List.set_cons_zero, List.set_cons_succ, i64_w, i32_w]
        rfl
       refine take_ (i := 14) (N := some 33) (v := ?_) (a' := ?_) #[true, true, true, true, true, true, true, true, true, true, true, true, true, true, true, true, false, false, false, false, false, false, false, false, false, false, false, false, false, false, false, false, false, false, false, false, false, false, false, false, false, false, false, false] rfl rfl (take_ofW HT_.out HW_.out (by kernel_rfl)) (fun _ _ _ h => h) (Or.inl ⟨by rfl, ?_⟩) hHeld ?_ ?_
       rotate_left
       ·rintro w' ⟨s0, s1, s2, s3, s4, s5, s6, s7, s8, s9, s10, s11, s12, s13, s14, s15, s16, s17, s18, s19, s20, s21⟩
        go_simp
        with_reducible rfl
       rotate_left
       ·simp only [Act.put, List.setIfInBounds_toArray, List.set_cons_zero, List.set_cons_succ, i64_w, i32_w]
        rfl
       refine take_ (i := 16) (N := some 35) (v := ?_) (a' := ?_) #[true, true, true, true, true, true, true, true, true, true, true, true, true, true, true, true, true, false, false, false, false, false, false, false, false, false, false, false, false, false, false, false, false, false, false, false, false, false, false, false, false, false, false, false] rfl rfl (take_ofW HT_.out HW_.out (by kernel_rfl)) (fun _ _ _ h => h) (Or.inl ⟨by rfl, ?_⟩) hHeld ?_ ?_
       rotate_left
       ·rintro w' ⟨s0, s1, s2, s3, s4, s5, s6, s7, s8, s9, s10, s11, s12, s13, s14, s15, s16, s17, s18, s19, s20, s21⟩
        go_simp
        with_reducible rfl
       rotate_left
       ·simp only [Act.put, List.setIfInBounds_toArray, List.set_cons_zero, List.set_cons_succ, i64_w, i32_w]
        rfl
       refine one_ (i := 17) (N := some 36) #[true, true, true, true, true, true, true, true, true, true, true, true, true, true, true, true, true, true, false, false, false, false, false, false, false, false, false, false, false, false, false, false, false, false, false, false, false, false, false, false, false, false, false, false] rfl rfl (one_of HT_.out (by kernel_rfl)) (by decide) (fun K hK => ?_)
       refine goes_ Tryd.func22 (by kernel_rfl) rfl #[.slice Ao36 t216.length co36, .slice Ao45 t222.length co45] (by rfl) rfl rfl (by (try simp only [List.map_toArray, List.map_cons, List.map_nil]); first | done | rfl) ?_
       with_reducible refine (r14_Same.calls k _ _ t216 _ _ t222 true _ ?side1 ?side2 ?side3 ?side4 A8.out).mono ?_
       (case side1 => repeat (first | exact (Kd.R_reads' HO218.out).2.2 | (with_reducible refine Kd.C_alloc ?_ _) | (with_reducible refine Kd.C_drewN ?_ _) | (with_reducible refine Kd.C_drew ?_)))
       (case side2 => exact (Kd.R_reads' HO218.out).2.1)
       (case side3 => repeat (first | exact (Kd.R_reads' HO224.out).2.2 | (with_reducible refine Kd.C_alloc ?_ _) | (with_reducible refine Kd.C_drewN ?_ _) | (with_reducible refine Kd.C_drew ?_)))
       (case side4 => exact (Kd.R_reads' HO224.out).2.1)
       rintro e w' ⟨rfl, ⟨nd, rfl⟩⟩
       refine ⟨_, rfl, ?_⟩
       refine hK.out _ _ (by and_intros <;> first | exact (blk_cell BK219.out _).trans rfl | exact (blk_cell BK225.out _).trans rfl | exact (blk_cell BK212.out _).trans rfl | exact (blk_cell BK185.out _).trans rfl) (fun hHeld => ?_)
       clear hK K
       refine norm_ (a' := ?_) ?_ ?_
       rotate_left
       ·show Act.put _ (some 36) _ = _
        simp only [Act.put, List.setIfInBounds_toArray, List.set_cons_zero, List.set_cons_succ, i64_w, i32_w]
        rfl
       refine pure_ (i := 18) (N := some 37) (v := ?_) (a' := ?_) #[true, true, true, true, true, true, true, true, true, true, true, true, true, true, true, true, true, true, true, false, false, false, false, false, false, false, false, false, false, false, false, false, false, false, false, false, false, false, false, false, false, false, false, false] rfl rfl (any_of HT_.out (by kernel_rfl)) (fun _ _ _ h => h) (Or.inl ⟨by rfl, ?_⟩) ?_ ?_
       rotate_left
       ·intro w'
        go_simp
        with_reducible rfl
       rotate_left
       ·simp only [Act.put, List.setIfInBounds_toArray, List.set_cons_zero, List.set_cons_succ, i64_w, i32_w]
        rfl
       refine pure_ (i := 19) (N := some 38) (v := ?_) (a' := ?_) #[true, true, true, true, true, true, true, true, true, true, true, true, true, true, true, true, true, true, true, true, false, false, false, false, false, false, false, false, false, false, false, false, false, false, false, false, false, false, false, false, false, false, false, false] rfl rfl (any_of HT_.out (by kernel_rfl)) (fun _ _ _ h => h) (Or.inl ⟨by rfl, ?_⟩) ?_ ?_
       rotate_left
       ·intro w'
        go_simp
        with_reducible rfl
       rotate_left
       ·simp only [Act.put, List.setIfInBounds_toArray, List.set_cons_zero, List.set_cons_succ, i64_w, i32_w]
        rfl
       refine pure_ (i := 20) (N := some 39) (v := ?_) (a' := ?_) #[true, true, true, true, true, true, true, true, true, true, true, true, true, true, true, true, true, true, true, true, true, false, false, false, false, false, false, false, false, false, false, false, false, false, false, false, false, false, false, false, false, false, false, false] rfl rfl (any_of HT_.out (by kernel_rfl)) (fun _ _ _ h => h) (Or.inl ⟨by rfl, ?_⟩) ?_ ?_
       rotate_left
       ·intro w'
        go_simp
        with_reducible rfl
       rotate_left
       ·simp only [Act.put, List.setIfInBounds_toArray, List.set_cons_zero, List.set_cons_succ, i64_w, i32_w]
        rfl
       refine pure_ (i := 21) (N := some 40) (v := ?_) (a' := ?_) #[true, true, true, true, true, true, true, true, true, true, true, true, true, true, true, true, true, true, true, true, true, true, false, false, false, false, false, false, false, false, false, false, false, false, false, false, false, false, false, false, false, false, false, false] rfl rfl (any_of HT_.out (by kernel_rfl)) (fun _ _ _ h => h) (Or.inl ⟨by rfl, ?_⟩) ?_ ?_
       rotate_left
       ·intro w'
        go_simp
        with_reducible rfl
       rotate_left
       ·simp only [Act.put, List.setIfInBounds_toArray, List.set_cons_zero, List.set_cons_succ, i64_w, i32_w]
        rfl
       refine pure_ (i := 22) (N := some 41) (v := ?_) (a' := ?_) #[true, true, true, true, true, true, true, true, true, true, true, true, true, true, true, true, true, true, true, true, true, true, true, false, false, false, false, false, false, false, false, false, false, false, false, false, false, false, false, false, false, false, false, false] rfl rfl (any_of HT_.out (by kernel_rfl)) (fun _ _ _ h => h) (Or.inl ⟨by rfl, ?_⟩) ?_ ?_
       rotate_left
       ·intro w'
        go_simp
        with_reducible rfl
       rotate_left
       ·simp only [Act.put, List.setIfInBounds_toArray, List.set_cons_zero, List.set_cons_succ, i64_w, i32_w]
        rfl
       refine pure_ (i := 23) (N := some 42) (v := ?_) (a' := ?_) #[true, true, true, true, true, true, true, true, true, true, true, true, true, true, true, true, true, true, true, true, true, true, true, true, false, false, false, false, false, false, false, false, false, false, false, false, false, false, false, false, false, false, false, false] rfl rfl (any_of HT_.out (by kernel_rfl)) (fun _ _ _ h => h) (Or.inl ⟨by rfl, ?_⟩) ?_ ?_
       rotate_left
       ·intro w'
        go_simp
        with_reducible rfl
       rotate_left
       ·simp only [Act.put, List.setIfInBounds_toArray, List.set_cons_zero, List.set_cons_succ, i64_w, i32_w]
        rfl
       refine pure_ (i := 26) (N := some 45) (v := ?_) (a' := ?_) #[true, true, true, true, true, true, true, true, true, true, true, true, true, true, true, true, true, true, true, true, true, true, true, true, false, false, true, false, false, false, false, false, false, false, false, false, false, false, false, false, false, false, false, false] rfl rfl (any_of HT_.out (by kernel_rfl)) (fun _ _ _ h => h) (Or.inl ⟨by rfl, ?_⟩) ?_ ?_
       rotate_left
       ·intro w'
        go_simp
        with_reducible rfl
       rotate_left
       ·simp only [Act.put, List.setIfInBounds_toArray, List.set_cons_zero, List.set_cons_succ, i64_w, i32_w]
        rfl
       refine take_ (i := 24) (N := some 43) (v := ?_) (a' := ?_) #[true, true, true, true, true, true, true, true, true, true, true, true, true, true, true, true, true, true, true, true, true, true, true, true, true, false, true, false, false, false, false, false, false, false, false, false, false, false, false, false, false, false, false, false] rfl rfl (take_ofW HT_.out HW_.out (by kernel_rfl)) (fun _ _ _ h => h) (Or.inl ⟨by rfl, ?_⟩) hHeld ?_ ?_
       rotate_left
       ·rintro w' ⟨s0, s1, s2, s3, s4, s5, s6, s7, s8, s9, s10, s11, s12, s13, s14, s15, s16, s17, s18, s19, s20, s21⟩
        go_simp
        with_reducible rfl
       rotate_left
       ·simp only [Act.put, List.setIfInBounds_toArray, List.set_cons_zero, List.set_cons_succ, i64_w, i32_w]
        rfl
       refine take_ (i := 27) (N := some 46) (v := ?_) (a' := ?_) #[true, true, true, true, true, true, true, true, true, true, true, true, true, true, true, true, true, true, true, true, true, true, true, true, true, false, true, true, false, false, false, false, false, false, false, false, false, false, false, false, false, false, false, false] rfl rfl (take_ofW HT_.out HW_.out (by kernel_rfl)) (fun _ _ _ h => h) (Or.inl ⟨by rfl, ?_⟩) hHeld ?_ ?_
       rotate_left
       ·rintro w' ⟨s0, s1, s2, s3, s4, s5, s6, s7, s8, s9, s10, s11, s12, s13, s14, s15, s16, s17, s18, s19, s20, s21⟩
        go_simp
        with_reducible rfl
       rotate_left
       ·simp only [Act.put, List.setIfInBounds_toArray, List.set_cons_zero, List.set_cons_succ, i64_w, i32_w]
        rfl
       refine one_ (i := 25) (N := some 44) #[true, true, true, true, true, true, true, true, true, true, true, true, true, true, true, true, true, true, true, true, true, true, true, true, true, true, true, true, false, false, false, false, false, false, false, false, false, false, false, false, false, false, false, false] rfl rfl (one_of HT_.out (by kernel_rfl)) (by decide) (fun K hK => ?_)
       refine goes_ Tryd.func23 (by kernel_rfl) rfl #[.agg #[.string t189, .string t190, .int .i64 t191, .string t192, .string t193]] (by rfl) rfl rfl (by (try simp only [List.map_toArray, List.map_cons, List.map_nil]); first | done | rfl) ?_
       with_reducible refine (preflight_Host.calls t189 t190 t191 t192 t193 t228 _ (maxis_below HMX.out (by repeat (first | (with_reducible first | exact HB.out | apply below_alloc | apply pw_below_drewN | apply below_drew1) | exact HB.out | (refine Below.setCell ?_ ?_ _) | (first | exact GW185.out | exact GW212.out | exact GW213.out | exact GW219.out | exact GW225.out)))) A11.out).mono ?_
       rintro e w49 ⟨rfl, hb⟩
       refine ⟨_, rfl, ?_⟩
       replace HO197 := Aside0.mk (Kd.V_below (V_later HO197.out) hb)
       replace HO210 := Aside0.mk (Kd.V_below (V_later HO210.out) hb)
       replace HO218 := Aside0.mk (Kd.R_below (R_later HO218.out) hb)
       replace HO224 := Aside0.mk (Kd.R_below (R_later HO224.out) hb)
       replace BK185 := Aside0.mk (blk_below (blk_later BK185.out) hb)
       replace BK212 := Aside0.mk (blk_below (blk_later BK212.out) hb)
       replace BK213 := Aside0.mk (blk_below (blk_later BK213.out) hb)
       replace BK219 := Aside0.mk (blk_below (blk_later BK219.out) hb)
       replace BK225 := Aside0.mk (blk_below (blk_later BK225.out) hb)
       replace HB := Aside0.mk (below_step (by repeat (first | (with_reducible first | exact HB.out | apply below_alloc | apply pw_below_drewN | apply below_drew1 | refine below_set ?_ GE185.out | refine below_set ?_ GE212.out | refine below_set ?_ GE213.out | refine below_set ?_ GE219.out | refine below_set ?_ GE225.out) | exact HB.out)) hb)
       (try clear hb)
       (try clear hb2)
       (try clear hk)
       (try clear hi)
       refine hK.out _ _ (by and_intros <;> first | exact (blk_cell BK219.out _).trans rfl | exact (blk_cell BK225.out _).trans rfl | exact (blk_cell BK212.out _).trans rfl | exact (blk_cell BK185.out _).trans rfl) (fun hHeld => ?_)
       clear hK K
       refine norm_ (a' := ?_) ?_ ?_
       rotate_left
       ·show Act.put _ (some 44) _ = _
        simp only [Act.put, List.setIfInBounds_toArray, List.set_cons_zero, List.set_cons_succ, i64_w, i32_w]
        rfl
       refine one_ (i := 28) (N := some 47) #[true, true, true, true, true, true, true, true, true, true, true, true, true, true, true, true, true, true, true, true, true, true, true, true, true, true, true, true, true, false, false, false, false, false, false, false, false, false, false, false, false, false, false, false] rfl rfl (one_of HT_.out (by kernel_rfl)) (by decide) (fun K hK => ?_)
       refine goes_ Tryd.func24 (by kernel_rfl) rfl #[.agg #[.string t189, .string t190, .int .i64 t191, .string t192, .string t193]] (by rfl) rfl rfl (by (try simp only [List.map_toArray, List.map_cons, List.map_nil]); first | done | rfl) ?_
       with_reducible refine (r17_Host.calls k t189 t190 t191 t192 t193 t229 _ A12.out).mono ?_
       rintro e w50 ⟨rfl, hb⟩
       refine ⟨_, rfl, ?_⟩
       replace HO197 := Aside0.mk (Kd.V_below (V_later HO197.out) hb)
       replace HO210 := Aside0.mk (Kd.V_below (V_later HO210.out) hb)
       replace HO218 := Aside0.mk (Kd.R_below (R_later HO218.out) hb)
       replace HO224 := Aside0.mk (Kd.R_below (R_later HO224.out) hb)
       replace BK185 := Aside0.mk (blk_below (blk_later BK185.out) hb)
       replace BK212 := Aside0.mk (blk_below (blk_later BK212.out) hb)
       replace BK213 := Aside0.mk (blk_below (blk_later BK213.out) hb)
       replace BK219 := Aside0.mk (blk_below (blk_later BK219.out) hb)
       replace BK225 := Aside0.mk (blk_below (blk_later BK225.out) hb)
       replace HB := Aside0.mk (below_step (by repeat (first | (with_reducible first | exact HB.out | apply below_alloc | apply pw_below_drewN | apply below_drew1 | refine below_set ?_ GE185.out | refine below_set ?_ GE212.out | refine below_set ?_ GE213.out | refine below_set ?_ GE219.out | refine below_set ?_ GE225.out) | exact HB.out)) hb)
       (try clear hb)
       (try clear hb2)
       (try clear hk)
       (try clear hi)
       refine hK.out _ _ (by and_intros <;> first | exact (blk_cell BK219.out _).trans rfl | exact (blk_cell BK225.out _).trans rfl | exact (blk_cell BK212.out _).trans rfl | exact (blk_cell BK185.out _).trans rfl) (fun hHeld => ?_)
       clear hK K
       refine norm_ (a' := ?_) ?_ ?_
       rotate_left
       ·show Act.put _ (some 47) _ = _
        simp only [Act.put, List.setIfInBounds_toArray, List.set_cons_zero, List.set_cons_succ, i64_w, i32_w]
        rfl
       refine pure_ (i := 29) (N := some 48) (v := ?_) (a' := ?_) #[true, true, true, true, true, true, true, true, true, true, true, true, true, true, true, true, true, true, true, true, true, true, true, true, true, true, true, true, true, true, false, false, false, false, false, false, false, false, false, false, false, false, false, false] rfl rfl (any_of HT_.out (by kernel_rfl)) (fun _ _ _ h => h) (Or.inl ⟨by rfl, ?_⟩) ?_ ?_
       rotate_left
       ·intro w'
        go_simp
        with_reducible rfl
       rotate_left
       ·simp only [Act.put, List.setIfInBounds_toArray, List.set_cons_zero, List.set_cons_succ, i64_w, i32_w]
        rfl
       refine pure_ (i := 30) (N := some 49) (v := ?_) (a' := ?_) #[true, true, true, true, true, true, true, true, true, true, true, true, true, true, true, true, true, true, true, true, true, true, true, true, true, true, true, true, true, true, true, false, false, false, false, false, false, false, false, false, false, false, false, false] rfl rfl (any_of HT_.out (by kernel_rfl)) (fun _ _ _ h => h) (Or.inl ⟨by rfl, ?_⟩) ?_ ?_
       rotate_left
       ·intro w'
        go_simp
        with_reducible rfl
       rotate_left
       ·simp only [Act.put, List.setIfInBounds_toArray, List.set_cons_zero, List.set_cons_succ, i64_w, i32_w]
        rfl
       refine pure_ (i := 31) (N := some 50) (v := ?_) (a' := ?_) #[true, true, true, true, true, true, true, true, true, true, true, true, true, true, true, true, true, true, true, true, true, true, true, true, true, true, true, true, true, true, true, true, false, false, false, false, false, false, false, false, false, false, false, false] rfl rfl (any_of HT_.out (by kernel_rfl)) (fun _ _ _ h => h) (Or.inl ⟨by rfl, ?_⟩) ?_ ?_
       rotate_left
       ·intro w'
        go_simp
        with_reducible rfl
       rotate_left
       ·simp only [Act.put, List.setIfInBounds_toArray, List.set_cons_zero, List.set_cons_succ, i64_w, i32_w]
        rfl
       refine pure_ (i := 32) (N := some 51) (v := ?_) (a' := ?_) #[true, true, true, true, true, true, true, true, true, true, true, true, true, true, true, true, true, true, true, true, true, true, true, true, true, true, true, true, true, true, true, true, true, false, false, false, false, false, false, false, false, false, false, false] rfl rfl (any_of HT_.out (by kernel_rfl)) (fun _ _ _ h => h) (Or.inl ⟨by rfl, ?_⟩) ?_ ?_
       rotate_left
       ·intro w'
        go_simp
        with_reducible rfl
       rotate_left
       ·simp only [Act.put, List.setIfInBounds_toArray, List.set_cons_zero, List.set_cons_succ, i64_w, i32_w]
        rfl
       refine pure_ (i := 35) (N := some 54) (v := ?_) (a' := ?_) #[true, true, true, true, true, true, true, true, true, true, true, true, true, true, true, true, true, true, true, true, true, true, true, true, true, true, true, true, true, true, true, true, true, false, false, true, false, false, false, false, false, false, false, false] rfl rfl (any_of HT_.out (by kernel_rfl)) (fun _ _ _ h => h) (Or.inl ⟨by rfl, ?_⟩) ?_ ?_
       rotate_left
       ·intro w'
        go_simp
        with_reducible rfl
       rotate_left
       ·simp only [Act.put, List.setIfInBounds_toArray, List.set_cons_zero, List.set_cons_succ, i64_w, i32_w]
        rfl
       refine take_ (i := 33) (N := some 52) (v := ?_) (a' := ?_) #[true, true, true, true, true, true, true, true, true, true, true, true, true, true, true, true, true, true, true, true, true, true, true, true, true, true, true, true, true, true, true, true, true, true, false, true, false, false, false, false, false, false, false, false] rfl rfl (take_ofW HT_.out HW_.out (by kernel_rfl)) (fun _ _ _ h => h) (Or.inl ⟨by rfl, ?_⟩) hHeld ?_ ?_
       rotate_left
       ·rintro w' ⟨s0, s1, s2, s3, s4, s5, s6, s7, s8, s9, s10, s11, s12, s13, s14, s15, s16, s17, s18, s19, s20, s21⟩
        go_simp
        with_reducible rfl
       rotate_left
       ·simp only [Act.put, List.setIfInBounds_toArray, List.set_cons_zero, List.set_cons_succ, i64_w, i32_w]
        rfl
       refine take_ (i := 36) (N := some 55) (v := ?_) (a' := ?_) #[true, true, true, true, true, true, true, true, true, true, true, true, true, true, true, true, true, true, true, true, true, true, true, true, true, true, true, true, true, true, true, true, true, true, false, true, true, false, false, false, false, false, false, false] rfl rfl (take_ofW HT_.out HW_.out (by kernel_rfl)) (fun _ _ _ h => h) (Or.inl ⟨by rfl, ?_⟩) hHeld ?_ ?_
       rotate_left
       ·rintro w' ⟨s0, s1, s2, s3, s4, s5, s6, s7, s8, s9, s10, s11, s12, s13, s14, s15, s16, s17, s18, s19, s20, s21⟩
        go_simp
        with_reducible rfl
       rotate_left
       ·simp only [Act.put, List.setIfInBounds_toArray, List.set_cons_zero, List.set_cons_succ, i64_w, i32_w]
        rfl
       refine one_ (i := 34) (N := some 53) #[true, true, true, true, true, true, true, true, true, true, true, true, true, true, true, true, true, true, true, true, true, true, true, true, true, true, true, true, true, true, true, true, true, true, true, true, true, false, false, false, false, false, false, false] rfl rfl (one_of HT_.out (by kernel_rfl)) (by decide) (fun K hK => ?_)
       refine goes_ Tryd.func25 (by kernel_rfl) rfl #[.string a0_2] (by rfl) rfl rfl (by (try simp only [List.map_toArray, List.map_cons, List.map_nil]); first | done | rfl) ?_
       with_reducible refine (preflight_Simple.calls a0_2 t230 _ A14.out).mono ?_
       rintro e w' ⟨rfl, ⟨nd, rfl⟩⟩
       refine ⟨_, rfl, ?_⟩
       refine hK.out _ _ (by and_intros <;> first | exact (blk_cell BK219.out _).trans rfl | exact (blk_cell BK225.out _).trans rfl | exact (blk_cell BK212.out _).trans rfl | exact (blk_cell BK185.out _).trans rfl) (fun hHeld => ?_)
       clear hK K
       refine norm_ (a' := ?_) ?_ ?_
       rotate_left
       ·show Act.put _ (some 53) _ = _
        simp only [Act.put, List.setIfInBounds_toArray, List.set_cons_zero, List.set_cons_succ, i64_w, i32_w]
        rfl
       refine one_ (i := 37) (N := some 56) #[true, true, true, true, true, true, true, true, true, true, true, true, true, true, true, true, true, true, true, true, true, true, true, true, true, true, true, true, true, true, true, true, true, true, true, true, true, true, false, false, false, false, false, false] rfl rfl (one_of HT_.out (by kernel_rfl)) (by decide) (fun K hK => ?_)
       refine goes_ Tryd.func26 (by kernel_rfl) rfl #[.string a0_2] (by rfl) rfl rfl (by (try simp only [List.map_toArray, List.map_cons, List.map_nil]); first | done | rfl) ?_
       with_reducible refine (r17_Simple.calls a0_2 t231 _ A15.out).mono ?_
       rintro e w' ⟨rfl, ⟨nd, rfl⟩⟩
       refine ⟨_, rfl, ?_⟩
       refine hK.out _ _ (by and_intros <;> first | exact (blk_cell BK219.out _).trans rfl | exact (blk_cell BK225.out _).trans rfl | exact (blk_cell BK212.out _).trans rfl | exact (blk_cell BK185.out _).trans rfl) (fun hHeld => ?_)
       clear hK K
       refine norm_ (a' := ?_) ?_ ?_
       rotate_left
       ·show Act.put _ (some 56) _ = _
        simp only [Act.put, List.setIfInBounds_toArray, List.set_cons_zero, List.set_cons_succ, i64_w, i32_w]
        rfl
       refine pure_ (i := 38) (N := some 57) (v := ?_) (a' := ?_) #[true, true, true, true, true, true, true, true, true, true, true, true, true, true, true, true, true, true, true, true, true, true, true, true, true, true, true, true, true, true, true, true, true, true, true, true, true, true, true, false, false, false, false, false] rfl rfl (any_of HT_.out (by kernel_rfl)) (fun _ _ _ h => h) (Or.inl ⟨by rfl, ?_⟩) ?_ ?_
       rotate_left
       ·intro w'
        go_simp
        with_reducible rfl
       rotate_left
       ·simp only [Act.put, List.setIfInBounds_toArray, List.set_cons_zero, List.set_cons_succ, i64_w, i32_w]
        rfl
       refine pure_ (i := 39) (N := some 58) (v := ?_) (a' := ?_) #[true, true, true, true, true, true, true, true, true, true, true, true, true, true, true, true, true, true, true, true, true, true, true, true, true, true, true, true, true, true, true, true, true, true, true, true, true, true, true, true, false, false, false, false] rfl rfl (any_of HT_.out (by kernel_rfl)) (fun _ _ _ h => h) (Or.inl ⟨by rfl, ?_⟩) ?_ ?_
       rotate_left
       ·intro w'
        go_simp
        with_reducible rfl
       rotate_left
       ·simp only [Act.put, List.setIfInBounds_toArray, List.set_cons_zero, List.set_cons_succ, i64_w, i32_w]
        rfl
       refine pure_ (i := 40) (N := some 59) (v := ?_) (a' := ?_) #[true, true, true, true, true, true, true, true, true, true, true, true, true, true, true, true, true, true, true, true, true, true, true, true, true, true, true, true, true, true, true, true, true, true, true, true, true, true, true, true, true, false, false, false] rfl rfl (any_of HT_.out (by kernel_rfl)) (fun _ _ _ h => h) (Or.inl ⟨by rfl, ?_⟩) ?_ ?_
       rotate_left
       ·intro w'
        go_simp
        with_reducible rfl
       rotate_left
       ·simp only [Act.put, List.setIfInBounds_toArray, List.set_cons_zero, List.set_cons_succ, i64_w, i32_w]
        rfl
       refine one_ (i := 41) (N := some 60) #[true, true, true, true, true, true, true, true, true, true, true, true, true, true, true, true, true, true, true, true, true, true, true, true, true, true, true, true, true, true, true, true, true, true, true, true, true, true, true, true, true, true, false, false] rfl rfl (one_of HT_.out (by kernel_rfl)) (by decide) (fun K hK => ?_)
       refine goes_ Tryd.func27 (by kernel_rfl) rfl #[] (by rfl) rfl rfl (by (try simp only [List.map_toArray, List.map_cons, List.map_nil]); first | done | rfl) ?_
       with_reducible refine (w17_lives.calls  t232 _ (maxis_below HMX.out (by repeat (first | (with_reducible first | exact HB.out | apply below_alloc | apply pw_below_drewN | apply below_drew1) | exact HB.out | (refine Below.setCell ?_ ?_ _) | (first | exact GW185.out | exact GW212.out | exact GW213.out | exact GW219.out | exact GW225.out)))) A17.out).mono ?_
       rintro e w51 ⟨rfl, hb⟩
       refine ⟨_, rfl, ?_⟩
       replace HO197 := Aside0.mk (Kd.V_below (V_later HO197.out) hb)
       replace HO210 := Aside0.mk (Kd.V_below (V_later HO210.out) hb)
       replace HO218 := Aside0.mk (Kd.R_below (R_later HO218.out) hb)
       replace HO224 := Aside0.mk (Kd.R_below (R_later HO224.out) hb)
       replace BK185 := Aside0.mk (blk_below (blk_later BK185.out) hb)
       replace BK212 := Aside0.mk (blk_below (blk_later BK212.out) hb)
       replace BK213 := Aside0.mk (blk_below (blk_later BK213.out) hb)
       replace BK219 := Aside0.mk (blk_below (blk_later BK219.out) hb)
       replace BK225 := Aside0.mk (blk_below (blk_later BK225.out) hb)
       replace HB := Aside0.mk (below_step (by repeat (first | (with_reducible first | exact HB.out | apply below_alloc | apply pw_below_drewN | apply below_drew1 | refine below_set ?_ GE185.out | refine below_set ?_ GE212.out | refine below_set ?_ GE213.out | refine below_set ?_ GE219.out | refine below_set ?_ GE225.out) | exact HB.out)) hb)
       (try clear hb)
       (try clear hb2)
       (try clear hk)
       (try clear hi)
       refine hK.out _ _ (by and_intros <;> first | exact (blk_cell BK219.out _).trans rfl | exact (blk_cell BK225.out _).trans rfl | exact (blk_cell BK212.out _).trans rfl | exact (blk_cell BK185.out _).trans rfl) (fun hHeld => ?_)
       clear hK K
       refine norm_ (a' := ?_) ?_ ?_
       rotate_left
       ·show Act.put _ (some 60) _ = _
        simp only [Act.put, List.setIfInBounds_toArray, List.set_cons_zero, List.set_cons_succ, i64_w, i32_w]
        rfl
       refine pure_ (i := 42) (N := some 61) (v := ?_) (a' := ?_) #[true, true, true, true, true, true, true, true, true, true, true, true, true, true, true, true, true, true, true, true, true, true, true, true, true, true, true, true, true, true, true, true, true, true, true, true, true, true, true, true, true, true, true, false] rfl rfl (any_of HT_.out (by kernel_rfl)) (fun _ _ _ h => h) (Or.inl ⟨by rfl, ?_⟩) ?_ ?_
       rotate_left
       ·intro w'
        go_simp
        with_reducible rfl
       rotate_left
       ·simp only [Act.put, List.setIfInBounds_toArray, List.set_cons_zero, List.set_cons_succ, i64_w, i32_w]
        rfl
       refine pure_ (i := 43) (N := some 2) (v := ?_) (a' := ?_) #[true, true, true, true, true, true, true, true, true, true, true, true, true, true, true, true, true, true, true, true, true, true, true, true, true, true, true, true, true, true, true, true, true, true, true, true, true, true, true, true, true, true, true, true] rfl rfl (any_of HT_.out (by kernel_rfl)) (fun _ _ _ h => h) (Or.inl ⟨by rfl, ?_⟩) ?_ ?_
       rotate_left
       ·intro w'
        go_simp
        with_reducible rfl
       rotate_left
       ·simp only [Act.put, List.setIfInBounds_toArray, List.set_cons_zero, List.set_cons_succ, i64_w, i32_w]
        rfl
       refine done_ (done_of HT_.out (by kernel_rfl)) ?_
       try go_wp2
       go_ret
       exact ⟨by first | rfl | (simp [errW_none, errW_some] <;> rfl) | (simp [*, errW_none, errW_some] <;> rfl), by repeat (first | (with_reducible first | exact HB.out | apply below_alloc | apply pw_below_drewN | apply below_drew1 | refine below_set ?_ GE185.out | refine below_set ?_ GE212.out | refine below_set ?_ GE213.out | refine below_set ?_ GE219.out | refine below_set ?_ GE225.out) | exact HB.out)⟩
      rw [if_neg c16] at H
      exact absurd H (by simp)
     rw [if_neg c13] at H
     exact absurd H (by simp)
    replace c10 := Bool.eq_false_iff.mpr c10
    subst c10
    have H1 : (none) = some r := by rw [if_neg (show ¬ (false = true) by decide)] at H; exact H
    clear H
    have H := H1
    clear H1
    exact absurd H (by simp)
   replace c9 := Bool.eq_false_iff.mpr c9
   subst c9
   have H1 : (none) = some r := by rw [if_neg (show ¬ (false = true) by decide)] at H; exact H
   clear H
   have H := H1
   clear H1
   exact absurd H (by simp)
  rw [if_neg c7] at H
  exact absurd H (by simp)
 rw [if_neg c6] at H
 exact absurd H (by simp)

/-- THE ONE PURE STATEMENT of w17_PreflightAsks. -/
def w17_PreflightAsks.Pure : Prop := ∀ (s0 : S41), (s0.f0.size ≤ 9223372036854775807 ∧ s0.f1.size ≤ 9223372036854775807 ∧ s0.f2.size ≤ 9223372036854775807 ∧ (s0.f3.length ≤ 9223372036854775807 ∧ ∀ x_ ∈ s0.f3, x_.size ≤ 9223372036854775807) ∧ True) → ∃ k, w17_PreflightAsks.f k s0.f0 s0.f1 s0.f2 s0.f3 s0.f4 = some true

end Go.Proofs.YthjhbhgfckaklaaDoor.P
