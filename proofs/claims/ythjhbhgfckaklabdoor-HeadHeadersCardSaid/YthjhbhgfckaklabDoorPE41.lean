-- PRINTED by pr.py (a driver round the kit's print program): not trusted, Lean checks it.
import Derived.Test.YthjhbhgfckaklabDoorPb
import Derived.Test.YthjhbhgfckaklabDoorStrs
import Derived.Test.YthjhbhgfckaklabDoorHeadM
import Derived.Test.YthjhbhgfckaklabDoorPD2
import Derived.Test.YthjhbhgfckaklabDoorPH11
import Derived.Test.YthjhbhgfckaklabDoorPR2
import Derived.Test.YthjhbhgfckaklabDoorPR3
import Derived.Test.YthjhbhgfckaklabDoorPR4
import Derived.Test.YthjhbhgfckaklabDoorPR5
import Derived.Test.YthjhbhgfckaklabDoorPR7
namespace Go.Proofs.YthjhbhgfckaklabDoor.P
open Go.RowKit Go.Proofs.YthjhbhgfckaklabDoorW.PrintWords Go.Proofs.YthjhbhgfckaklabDoorW.PrintLast Go.Proofs.YthjhbhgfckaklabDoorW.PrintMore
attribute [local go_sem] max2_int min2_int max_two min_two max_three min_three max_four min_four   -- for this text's walks alone
set_option linter.unusedVariables false
set_option linter.unusedSimpArgs false

/-! ### abatislaw14_HeadHeaders: function 6 -/
mutual
def abatislaw14_HeadHeaders.j0 : Nat → List (S26) → ByteArray → List ByteArray → Option (Bool)
 | 0, _, _, _ => none
 | k + 1, x0, x2, x9 => if ([] : List (S26)).length + x0.length < 4398046511104 then (abatislaw14_HeadHeaders.l0 k x0 x2 x9 (([] : List (S26)) ++ x0) 0) else (none)
def abatislaw14_HeadHeaders.l0 : Nat → List (S26) → ByteArray → List ByteArray → List (S26) → Int → Option (Bool)
 | 0, _, _, _, _, _ => none
 | k + 1, x0, x2, x9, x10, x11 => if x11 < (x9.length : Int) then (if 0 ≤ x11 then ((abatisref14_All.f k x0 (rdOf ByteArray.empty x9 x11)).bind fun t120 => ((head_Get.f x0 (rdOf ByteArray.empty x9 x11)).bind fun bt124 => ((head_Set.f x0 (rdOf ByteArray.empty x9 x11) x2).bind fun t127 => ((head_Get.f t127 (rdOf ByteArray.empty x9 x11)).bind fun bt131 => ((head_All.f x0 (rdOf ByteArray.empty x9 x11)).bind fun t134 => ((abatisref01_Same.f k t134 t120).bind fun t137 => (if t137 = true then (if (bt124.2 != (decide ((t120.length : Int) > 0))) = true then (none) else (if bt131.1.toList = x2.toList then (abatislaw14_HeadHeaders.j2 k x0 x2 x9 x10 x11 t120 bt124.1 bt124.2 t127 (!bt131.2)) else (none))) else (none)))))))) else (none)) else ((abatislaw14_lives.f k).bind fun t118 => (some t118))
def abatislaw14_HeadHeaders.j2 : Nat → List (S26) → ByteArray → List ByteArray → List (S26) → Int → List ByteArray → ByteArray → Bool → List (S26) → Bool → Option (Bool)
 | 0, _, _, _, _, _, _, _, _, _, _ => none
 | k + 1, x0, x2, x9, x10, x11, x12, x13, x14, x15, x104 => if x104 = true then (none) else (if x14 = true then (if 0 < (x12.length : Int) then (if x13.toList = (rdOf ByteArray.empty x12 0).toList then (abatislaw14_HeadHeaders.j3 k x0 x2 x9 x10 x11 x15 false) else (none)) else (none)) else (abatislaw14_HeadHeaders.j3 k x0 x2 x9 x10 x11 x15 (x13.toList != ([] : List UInt8))))
def abatislaw14_HeadHeaders.j3 : Nat → List (S26) → ByteArray → List ByteArray → List (S26) → Int → List (S26) → Bool → Option (Bool)
 | 0, _, _, _, _, _, _, _ => none
 | k + 1, x0, x2, x9, x10, x11, x15, x120 => if x120 = true then (none) else (if 0 ≤ x11 then (if x11 < (x9.length : Int) then ((head_List.f k x0 (rdOf ByteArray.empty x9 x11)).bind fun t140 => ((abatisref14_List.f k x0 (rdOf ByteArray.empty x9 x11)).bind fun t144 => ((abatisref01_Same.f k t140 t144).bind fun t147 => (if t147 = true then ((abatisref14_Set.f k x0 (rdOf ByteArray.empty x9 x11) x2).bind fun t149 => ((abatisref14_Same.f k x15 t149).bind fun t152 => (if t152 = true then ((head_Drop.f x0 (rdOf ByteArray.empty x9 x11)).bind fun t154 => ((abatisref14_Drop.f k x0 (rdOf ByteArray.empty x9 x11)).bind fun t158 => ((abatisref14_Same.f k t154 t158).bind fun t161 => (if t161 = true then ((abatisref14_Same.f k x0 x10).bind fun t162 => (if t162 = true then (abatislaw14_HeadHeaders.l0 k x0 x2 x9 x10 (wrap64 (x11 + 1))) else (none))) else (none))))) else (none)))) else (none))))) else (none)) else (none))
end
def abatislaw14_HeadHeaders.f (k : Nat) (l0 : List (S26)) (a1 : ByteArray) (a2 : ByteArray) (a3 : Int) : Option (Bool) := (abatislaw14_few.f k l0 12).bind fun t101 => ((abatisref01_Few.f a2 30).bind fun t104 => ((abatisref01_Few.f a1 30).bind fun t105 => ((some (([t105] : List ByteArray) : List ByteArray)).bind fun y106 => (if (t101.length : Int) > 0 then ((abatisref01_Around.f a3 (t101.length : Int)).bind fun t109 => (if 0 ≤ t109 then (if t109 < (t101.length : Int) then ((abatisref01_Lower.f k ((rd_T26 t101 t109).f0)).bind fun t111 => (if y106.length < 8796093022208 then (abatislaw14_HeadHeaders.j0 k t101 t104 (y106 ++ [t111])) else (none))) else (none)) else (none))) else (abatislaw14_HeadHeaders.j0 k t101 t104 y106)))))
theorem abatislaw14_HeadHeaders.mono_l : ∀ k, (∀ y0 y1 y2, LeO (abatislaw14_HeadHeaders.j0 k y0 y1 y2) (abatislaw14_HeadHeaders.j0 (k + 1) y0 y1 y2)) ∧ (∀ y0 y1 y2 y3 y4, LeO (abatislaw14_HeadHeaders.l0 k y0 y1 y2 y3 y4) (abatislaw14_HeadHeaders.l0 (k + 1) y0 y1 y2 y3 y4)) ∧ (∀ y0 y1 y2 y3 y4 y5 y6 y7 y8 y9, LeO (abatislaw14_HeadHeaders.j2 k y0 y1 y2 y3 y4 y5 y6 y7 y8 y9) (abatislaw14_HeadHeaders.j2 (k + 1) y0 y1 y2 y3 y4 y5 y6 y7 y8 y9)) ∧ (∀ y0 y1 y2 y3 y4 y5 y6, LeO (abatislaw14_HeadHeaders.j3 k y0 y1 y2 y3 y4 y5 y6) (abatislaw14_HeadHeaders.j3 (k + 1) y0 y1 y2 y3 y4 y5 y6))
 | 0 => ⟨fun _ _ _ r h => by simp [abatislaw14_HeadHeaders.j0] at h, fun _ _ _ _ _ r h => by simp [abatislaw14_HeadHeaders.l0] at h, fun _ _ _ _ _ _ _ _ _ _ r h => by simp [abatislaw14_HeadHeaders.j2] at h, fun _ _ _ _ _ _ _ r h => by simp [abatislaw14_HeadHeaders.j3] at h⟩
 | k + 1 => by
  obtain ⟨ih0, ih1, ih2, ih3⟩ := abatislaw14_HeadHeaders.mono_l k
  refine ⟨?_, ?_, ?_, ?_⟩
  ·intro y0 y1 y2
   unfold abatislaw14_HeadHeaders.j0
   repeat' first
   | (with_reducible exact ih0 _ _ _)
   | (with_reducible exact ih1 _ _ _ _ _)
   | (with_reducible exact ih2 _ _ _ _ _ _ _ _ _ _)
   | (with_reducible exact ih3 _ _ _ _ _ _ _)
   | (with_reducible exact abatislaw14_few.mono _ _ _)
   | (with_reducible exact abatislaw14_lives.mono _)
   | (with_reducible exact abatisref01_Lower.mono _ _)
   | (with_reducible exact abatisref01_Same.mono _ _ _)
   | (with_reducible exact abatisref14_All.mono _ _ _)
   | (with_reducible exact abatisref14_Drop.mono _ _ _)
   | (with_reducible exact abatisref14_List.mono _ _ _)
   | (with_reducible exact abatisref14_Same.mono _ _ _)
   | (with_reducible exact abatisref14_Set.mono _ _ _ _)
   | (with_reducible exact head_List.mono _ _ _)
   | (with_reducible exact LeO.refl _)
   | (with_reducible exact LeO.none _)
   | (with_reducible refine LeO.ite ?_ ?_)
   | (with_reducible refine LeO.bind ?_ (fun _ => ?_))
   | exact ih0 _ _ _
   | exact ih1 _ _ _ _ _
   | exact ih2 _ _ _ _ _ _ _ _ _ _
   | exact ih3 _ _ _ _ _ _ _
   | exact abatislaw14_few.mono _ _ _
   | exact abatislaw14_lives.mono _
   | exact abatisref01_Lower.mono _ _
   | exact abatisref01_Same.mono _ _ _
   | exact abatisref14_All.mono _ _ _
   | exact abatisref14_Drop.mono _ _ _
   | exact abatisref14_List.mono _ _ _
   | exact abatisref14_Same.mono _ _ _
   | exact abatisref14_Set.mono _ _ _ _
   | exact head_List.mono _ _ _
   | exact LeO.none _
   | refine LeO.ite ?_ ?_
   | refine LeO.bind ?_ (fun _ => ?_)
  ·intro y0 y1 y2 y3 y4
   unfold abatislaw14_HeadHeaders.l0
   repeat' first
   | (with_reducible exact ih0 _ _ _)
   | (with_reducible exact ih1 _ _ _ _ _)
   | (with_reducible exact ih2 _ _ _ _ _ _ _ _ _ _)
   | (with_reducible exact ih3 _ _ _ _ _ _ _)
   | (with_reducible exact abatislaw14_few.mono _ _ _)
   | (with_reducible exact abatislaw14_lives.mono _)
   | (with_reducible exact abatisref01_Lower.mono _ _)
   | (with_reducible exact abatisref01_Same.mono _ _ _)
   | (with_reducible exact abatisref14_All.mono _ _ _)
   | (with_reducible exact abatisref14_Drop.mono _ _ _)
   | (with_reducible exact abatisref14_List.mono _ _ _)
   | (with_reducible exact abatisref14_Same.mono _ _ _)
   | (with_reducible exact abatisref14_Set.mono _ _ _ _)
   | (with_reducible exact head_List.mono _ _ _)
   | (with_reducible exact LeO.refl _)
   | (with_reducible exact LeO.none _)
   | (with_reducible refine LeO.ite ?_ ?_)
   | (with_reducible refine LeO.bind ?_ (fun _ => ?_))
   | exact ih0 _ _ _
   | exact ih1 _ _ _ _ _
   | exact ih2 _ _ _ _ _ _ _ _ _ _
   | exact ih3 _ _ _ _ _ _ _
   | exact abatislaw14_few.mono _ _ _
   | exact abatislaw14_lives.mono _
   | exact abatisref01_Lower.mono _ _
   | exact abatisref01_Same.mono _ _ _
   | exact abatisref14_All.mono _ _ _
   | exact abatisref14_Drop.mono _ _ _
   | exact abatisref14_List.mono _ _ _
   | exact abatisref14_Same.mono _ _ _
   | exact abatisref14_Set.mono _ _ _ _
   | exact head_List.mono _ _ _
   | exact LeO.none _
   | refine LeO.ite ?_ ?_
   | refine LeO.bind ?_ (fun _ => ?_)
  ·intro y0 y1 y2 y3 y4 y5 y6 y7 y8 y9
   unfold abatislaw14_HeadHeaders.j2
   repeat' first
   | (with_reducible exact ih0 _ _ _)
   | (with_reducible exact ih1 _ _ _ _ _)
   | (with_reducible exact ih2 _ _ _ _ _ _ _ _ _ _)
   | (with_reducible exact ih3 _ _ _ _ _ _ _)
   | (with_reducible exact abatislaw14_few.mono _ _ _)
   | (with_reducible exact abatislaw14_lives.mono _)
   | (with_reducible exact abatisref01_Lower.mono _ _)
   | (with_reducible exact abatisref01_Same.mono _ _ _)
   | (with_reducible exact abatisref14_All.mono _ _ _)
   | (with_reducible exact abatisref14_Drop.mono _ _ _)
   | (with_reducible exact abatisref14_List.mono _ _ _)
   | (with_reducible exact abatisref14_Same.mono _ _ _)
   | (with_reducible exact abatisref14_Set.mono _ _ _ _)
   | (with_reducible exact head_List.mono _ _ _)
   | (with_reducible exact LeO.refl _)
   | (with_reducible exact LeO.none _)
   | (with_reducible refine LeO.ite ?_ ?_)
   | (with_reducible refine LeO.bind ?_ (fun _ => ?_))
   | exact ih0 _ _ _
   | exact ih1 _ _ _ _ _
   | exact ih2 _ _ _ _ _ _ _ _ _ _
   | exact ih3 _ _ _ _ _ _ _
   | exact abatislaw14_few.mono _ _ _
   | exact abatislaw14_lives.mono _
   | exact abatisref01_Lower.mono _ _
   | exact abatisref01_Same.mono _ _ _
   | exact abatisref14_All.mono _ _ _
   | exact abatisref14_Drop.mono _ _ _
   | exact abatisref14_List.mono _ _ _
   | exact abatisref14_Same.mono _ _ _
   | exact abatisref14_Set.mono _ _ _ _
   | exact head_List.mono _ _ _
   | exact LeO.none _
   | refine LeO.ite ?_ ?_
   | refine LeO.bind ?_ (fun _ => ?_)
  ·intro y0 y1 y2 y3 y4 y5 y6
   unfold abatislaw14_HeadHeaders.j3
   repeat' first
   | (with_reducible exact ih0 _ _ _)
   | (with_reducible exact ih1 _ _ _ _ _)
   | (with_reducible exact ih2 _ _ _ _ _ _ _ _ _ _)
   | (with_reducible exact ih3 _ _ _ _ _ _ _)
   | (with_reducible exact abatislaw14_few.mono _ _ _)
   | (with_reducible exact abatislaw14_lives.mono _)
   | (with_reducible exact abatisref01_Lower.mono _ _)
   | (with_reducible exact abatisref01_Same.mono _ _ _)
   | (with_reducible exact abatisref14_All.mono _ _ _)
   | (with_reducible exact abatisref14_Drop.mono _ _ _)
   | (with_reducible exact abatisref14_List.mono _ _ _)
   | (with_reducible exact abatisref14_Same.mono _ _ _)
   | (with_reducible exact abatisref14_Set.mono _ _ _ _)
   | (with_reducible exact head_List.mono _ _ _)
   | (with_reducible exact LeO.refl _)
   | (with_reducible exact LeO.none _)
   | (with_reducible refine LeO.ite ?_ ?_)
   | (with_reducible refine LeO.bind ?_ (fun _ => ?_))
   | exact ih0 _ _ _
   | exact ih1 _ _ _ _ _
   | exact ih2 _ _ _ _ _ _ _ _ _ _
   | exact ih3 _ _ _ _ _ _ _
   | exact abatislaw14_few.mono _ _ _
   | exact abatislaw14_lives.mono _
   | exact abatisref01_Lower.mono _ _
   | exact abatisref01_Same.mono _ _ _
   | exact abatisref14_All.mono _ _ _
   | exact abatisref14_Drop.mono _ _ _
   | exact abatisref14_List.mono _ _ _
   | exact abatisref14_Same.mono _ _ _
   | exact abatisref14_Set.mono _ _ _ _
   | exact head_List.mono _ _ _
   | exact LeO.none _
   | refine LeO.ite ?_ ?_
   | refine LeO.bind ?_ (fun _ => ?_)
theorem abatislaw14_HeadHeaders.mono : ∀ a0 a1 a2 a3 k, LeO (abatislaw14_HeadHeaders.f k a0 a1 a2 a3) (abatislaw14_HeadHeaders.f (k + 1) a0 a1 a2 a3) := by
 intro a0 a1 a2 a3 k
 obtain ⟨ih0, ih1, ih2, ih3⟩ := abatislaw14_HeadHeaders.mono_l k
 unfold abatislaw14_HeadHeaders.f
 repeat' first
   | (with_reducible exact ih0 _ _ _)
   | (with_reducible exact ih1 _ _ _ _ _)
   | (with_reducible exact ih2 _ _ _ _ _ _ _ _ _ _)
   | (with_reducible exact ih3 _ _ _ _ _ _ _)
   | (with_reducible exact abatislaw14_few.mono _ _ _)
   | (with_reducible exact abatislaw14_lives.mono _)
   | (with_reducible exact abatisref01_Lower.mono _ _)
   | (with_reducible exact abatisref01_Same.mono _ _ _)
   | (with_reducible exact abatisref14_All.mono _ _ _)
   | (with_reducible exact abatisref14_Drop.mono _ _ _)
   | (with_reducible exact abatisref14_List.mono _ _ _)
   | (with_reducible exact abatisref14_Same.mono _ _ _)
   | (with_reducible exact abatisref14_Set.mono _ _ _ _)
   | (with_reducible exact head_List.mono _ _ _)
   | (with_reducible exact LeO.refl _)
   | (with_reducible exact LeO.none _)
   | (with_reducible refine LeO.ite ?_ ?_)
   | (with_reducible refine LeO.bind ?_ (fun _ => ?_))
   | exact ih0 _ _ _
   | exact ih1 _ _ _ _ _
   | exact ih2 _ _ _ _ _ _ _ _ _ _
   | exact ih3 _ _ _ _ _ _ _
   | exact abatislaw14_few.mono _ _ _
   | exact abatislaw14_lives.mono _
   | exact abatisref01_Lower.mono _ _
   | exact abatisref01_Same.mono _ _ _
   | exact abatisref14_All.mono _ _ _
   | exact abatisref14_Drop.mono _ _ _
   | exact abatisref14_List.mono _ _ _
   | exact abatisref14_Same.mono _ _ _
   | exact abatisref14_Set.mono _ _ _ _
   | exact head_List.mono _ _ _
   | exact LeO.none _
   | refine LeO.ite ?_ ?_
   | refine LeO.bind ?_ (fun _ => ?_)
def abatislaw14_HeadHeaders.T19 : Bool × List (List Nat × List Nat) := (true, [([], []), ([], []), ([], []), ([1, 2], [1, 2]), ([3], [3]), ([0, 4], [0, 4]), ([], []), ([], []), ([], []), ([7, 8], [7, 8]), ([9], [9]), ([6, 10, 5], [6, 10]), ([5, 11, 11], [5, 11]), ([12], [12]), ([13, 12], [13]), ([14], [14]), ([14], [14]), ([14], [14]), ([14], [14]), ([17, 18, 14], [14, 17, 18]), ([19, 14], [14, 19]), ([14], [14]), ([16, 20, 21, 14, 14], [14, 16, 20, 21]), ([15, 22, 22, 14], [14, 15, 22]), ([23, 14], [14, 23]), ([14, 24], [14, 24]), ([25, 23], [25]), ([26], [26]), ([26], [26]), ([26], [26]), ([28, 29, 26], [26, 28, 29]), ([30, 26], [26, 30]), ([27, 31, 26, 26], [26, 27, 31]), ([26], [26]), ([26], [26]), ([26], [26]), ([34, 35, 26], [26, 34, 35]), ([36, 26], [26, 36]), ([33, 37, 32, 26], [26, 33, 37]), ([32, 38, 38, 26], [26, 32, 38]), ([39, 26], [26, 39]), ([26, 40], [26, 40]), ([41, 39], [41]), ([42], [42]), ([42], [42]), ([43, 44, 42, 42], [42, 43, 44]), ([45, 42], [42, 45]), ([42, 46], [42, 46])])
def abatislaw14_HeadHeaders.B19 : List Nat := [0, 0, 0, 6, 14, 31, 0, 0, 0, 384, 896, 2047, 4095, 8191, 16383, 32767, 32767, 32767, 32767, 425983, 950271, 32767, 4161535, 8388607, 16777215, 33554431, 67108863, 134217727, 134217727, 134217727, 939524095, 2013265919, 4294967295, 134217727, 134217727, 134217727, 51673825279, 120393302015, 274877906943, 549755813887, 1099511627775, 2199023255551, 4398046511103, 8796093022207, 8796093022207, 35184372088831, 70368744177663, 140737488355327]
theorem abatislaw14_HeadHeaders.tab19 : rtab .any (opsOf Tryd.f6 19) = abatislaw14_HeadHeaders.T19 := by kernel_rfl
theorem abatislaw14_HeadHeaders.bits19 : waitsOk abatislaw14_HeadHeaders.T19.2 abatislaw14_HeadHeaders.B19 = true := by kernel_rfl
set_option maxHeartbeats 8000000 in
set_option maxRecDepth 100000 in
theorem abatislaw14_HeadHeaders.calls (k : Nat) (A0 : Option Addr) (c0 : Nat) (l0 : List (S26)) (a1 : ByteArray) (a2 : ByteArray) (a3 : Int) (r : Bool) (w : World) (hmx : MaxIs w) (hr0 : Kd.C k26 w A0 l0.length l0) (hc0 : l0.length ≤ c0) (h : abatislaw14_HeadHeaders.f k l0 a1 a2 a3 = some r) :
  Calls Tryd.prog 6 #[.slice A0 l0.length c0, .string a1, .string a2, .int .i64 a3] w fun e w' => e = .returned (.bool r) ∧ Below w.heap.size w w' := by
 have HR0 := Aside0.mk hr0
 have HC0 := Aside0.mk hc0
 clear hr0 hc0
 have HB := Aside0.mk (Below.refl w.heap.size w)
 have HMX := Aside0.mk hmx
 clear hmx
 have H : ((abatislaw14_few.f k l0 12).bind fun t101 => ((abatisref01_Few.f a2 30).bind fun t104 => ((abatisref01_Few.f a1 30).bind fun t105 => ((some (([t105] : List ByteArray) : List ByteArray)).bind fun y106 => (if (t101.length : Int) > 0 then ((abatisref01_Around.f a3 (t101.length : Int)).bind fun t109 => (if 0 ≤ t109 then (if t109 < (t101.length : Int) then ((abatisref01_Lower.f k ((rd_T26 t101 t109).f0)).bind fun t111 => (if y106.length < 8796093022208 then (abatislaw14_HeadHeaders.j0 k t101 t104 (y106 ++ [t111])) else (none))) else (none)) else (none))) else (abatislaw14_HeadHeaders.j0 k t101 t104 y106)))))) = some r := h
 clear h
 replace H := Option.bind_eq_some_iff.mp H
 obtain ⟨t101, A50, H⟩ := H
 replace H : ((abatisref01_Few.f a2 30).bind fun t104 => ((abatisref01_Few.f a1 30).bind fun t105 => ((some (([t105] : List ByteArray) : List ByteArray)).bind fun y106 => (if (t101.length : Int) > 0 then ((abatisref01_Around.f a3 (t101.length : Int)).bind fun t109 => (if 0 ≤ t109 then (if t109 < (t101.length : Int) then ((abatisref01_Lower.f k ((rd_T26 t101 t109).f0)).bind fun t111 => (if y106.length < 8796093022208 then (abatislaw14_HeadHeaders.j0 k t101 t104 (y106 ++ [t111])) else (none))) else (none)) else (none))) else (abatislaw14_HeadHeaders.j0 k t101 t104 y106))))) = some r := H
 have A5 := Aside0.mk A50
 clear A50
 replace H := Option.bind_eq_some_iff.mp H
 obtain ⟨t104, A60, H⟩ := H
 replace H : ((abatisref01_Few.f a1 30).bind fun t105 => ((some (([t105] : List ByteArray) : List ByteArray)).bind fun y106 => (if (t101.length : Int) > 0 then ((abatisref01_Around.f a3 (t101.length : Int)).bind fun t109 => (if 0 ≤ t109 then (if t109 < (t101.length : Int) then ((abatisref01_Lower.f k ((rd_T26 t101 t109).f0)).bind fun t111 => (if y106.length < 8796093022208 then (abatislaw14_HeadHeaders.j0 k t101 t104 (y106 ++ [t111])) else (none))) else (none)) else (none))) else (abatislaw14_HeadHeaders.j0 k t101 t104 y106)))) = some r := H
 have A6 := Aside0.mk A60
 clear A60
 replace H := Option.bind_eq_some_iff.mp H
 obtain ⟨t105, A70, H⟩ := H
 replace H : ((some (([t105] : List ByteArray) : List ByteArray)).bind fun y106 => (if (t101.length : Int) > 0 then ((abatisref01_Around.f a3 (t101.length : Int)).bind fun t109 => (if 0 ≤ t109 then (if t109 < (t101.length : Int) then ((abatisref01_Lower.f k ((rd_T26 t101 t109).f0)).bind fun t111 => (if y106.length < 8796093022208 then (abatislaw14_HeadHeaders.j0 k t101 t104 (y106 ++ [t111])) else (none))) else (none)) else (none))) else (abatislaw14_HeadHeaders.j0 k t101 t104 y106))) = some r := H
 have A7 := Aside0.mk A70
 clear A70
 obtain ⟨y106, hy106⟩ : ∃ y_ : List ByteArray, y_ = (([t105] : List ByteArray)) := ⟨_, rfl⟩
 replace H : (if (t101.length : Int) > 0 then ((abatisref01_Around.f a3 (t101.length : Int)).bind fun t109 => (if 0 ≤ t109 then (if t109 < (t101.length : Int) then ((abatisref01_Lower.f k ((rd_T26 t101 t109).f0)).bind fun t111 => (if y106.length < 8796093022208 then (abatislaw14_HeadHeaders.j0 k t101 t104 (y106 ++ [t111])) else (none))) else (none)) else (none))) else (abatislaw14_HeadHeaders.j0 k t101 t104 y106)) = some r := by first | (rw [hy106]; with_reducible exact H) | (have H2_ := (Option.bind_some _ _).symm.trans H; rw [hy106]; with_reducible exact H2_) | (have H2_ := (Option.bind_some _ _).symm.trans H; with_reducible exact H2_) | with_reducible exact H | (rw [hy106]; exact H) | exact H
 have Ny106 := Aside0.mk hy106
 clear hy106
 have HC8 := Aside0.mk H
 clear H
 go_enter Tryd.func6, Tryd.ntmps6
 go_upto_if 27 with (first | ((with_reducible refine gate_callee (f := 14) rfl ?_); refine goesL_ (some 19) rfl rfl Tryd.func14 (by kernel_rfl) rfl #[.slice A0 l0.length c0, .int .i64 12] rfl (by (try simp only [List.map_toArray, List.map_cons, List.map_nil]); first | done | rfl | (simp only [List.length_drop, List.length_take]; rfl)) ?_; (with_reducible refine (abatislaw14_few.calls k _ _ l0 12 t101 _ ?side1 ?side2 A5.out).mono ?_); (case side1 => repeat (first | exact HR0.out | (with_reducible refine Kd.C_alloc ?_ _) | (with_reducible refine Kd.C_drewN ?_ _) | (with_reducible refine Kd.C_drew ?_))); (case side2 => exact HC0.out); rintro e w9 ⟨v102, rfl, ho0, hb⟩; refine ⟨_, rfl, ?_⟩; have n0_ := Aside0.mk (Kd.R_lower ho0 (below_size (by repeat (first | (with_reducible first | exact HB.out | apply below_alloc | apply pw_below_drewN | apply below_drew1) | exact HB.out)))); have n1_ := Aside0.mk (below_step (by repeat (first | (with_reducible first | exact HB.out | apply below_alloc | apply pw_below_drewN | apply below_drew1) | exact HB.out)) hb); clear HB; have HO103 := n0_; have HB := n1_; clear n0_ n1_; (try clear hb); (try clear hb2); (try clear hk); (try clear hi); (try clear ho0)) | ((with_reducible refine gate_callee (f := 7) rfl ?_); refine goesL_ (some 21) rfl rfl Tryd.func7 (by kernel_rfl) rfl #[.string a2, .int .i64 30] rfl (by (try simp only [List.map_toArray, List.map_cons, List.map_nil]); first | done | rfl | (simp only [List.length_drop, List.length_take]; rfl)) ?_; (with_reducible refine (abatisref01_Few.calls a2 30 t104 _ A6.out).mono ?_); rintro e w' ⟨rfl, ⟨nd, rfl⟩⟩; refine ⟨_, rfl, ?_⟩) | ((with_reducible refine gate_callee (f := 7) rfl ?_); refine goesL_ (some 23) rfl rfl Tryd.func7 (by kernel_rfl) rfl #[.string a1, .int .i64 30] rfl (by (try simp only [List.map_toArray, List.map_cons, List.map_nil]); first | done | rfl | (simp only [List.length_drop, List.length_take]; rfl)) ?_; (with_reducible refine (abatisref01_Few.calls a1 30 t105 _ A7.out).mono ?_); rintro e w' ⟨rfl, ⟨nd, rfl⟩⟩; refine ⟨_, rfl, ?_⟩) | ((with_reducible refine gate_dst (N := 24) rfl ?_); (try (refine gate_guard (by rfl) ?_; dsimp only)); refine Kd.R_lit Kd.string _ 9 ?hg (N := 24) ?hd (xs := ([t105] : List ByteArray)) (inner := [.string t105]) (ok := fun _ => True) (okp := fun _ => True) ?hr ?hp (fun _ hk => hk) trivial (Below.refl _ _) (Nat.le_refl _) (by simp) ?_; (case hd => rfl); (case hg => rfl); (case hr => first | (go_simp; done) | (go_simp; rfl)); (case hp => exact (Reps.one (show Kd.M Kd.string _ _ _ t105 [.string t105] from rfl) (Reps.none _ _))); intro v107 w10 ho11 hb hg_ hnew_; clear hg_ hnew_; (first | rw [← Ny106.out] at ho11 | (simp only [Int.reduceToNat] at ho11; rw [← Ny106.out] at ho11)); have n0_ := Aside0.mk (Kd.R_below (by (with_reducible repeat (first | apply Kd.R_alloc | apply Kd.R_drewN | apply Kd.R_drew)); exact HO103.out) hb); have n1_ := Aside0.mk (Kd.R_lower ho11 (below_size (by repeat (first | (with_reducible first | exact HB.out | apply below_alloc | apply pw_below_drewN | apply below_drew1) | exact HB.out)))); have n2_ := Aside0.mk (below_step (by repeat (first | (with_reducible first | exact HB.out | apply below_alloc | apply pw_below_drewN | apply below_drew1) | exact HB.out)) hb); clear HO103; clear HB; have HO103 := n0_; have HO108 := n1_; have HB := n2_; clear n0_ n1_ n2_; clear hb ho11; obtain ⟨Ao12, co12, eo12⟩ := Kd.R_slice HO103.out; subst eo12))
 (try simp only [Act.put, List.setIfInBounds_toArray, List.set_cons_zero, List.set_cons_succ])
 go_cut [9] (fun v9 wc => ∃ (kq : Nat) (x9_7 : List ByteArray), Aside0 (abatislaw14_HeadHeaders.j0 kq t101 t104 x9_7 = some r) ∧ Aside0 (kq ≤ k) ∧ Aside0 (Kd.R k26 26 wc w.heap.size (fun _ => True) (.slice Ao12 t101.length co12) t101) ∧ Aside0 (Kd.R Kd.string 9 wc w.heap.size (fun _ => True) v9 x9_7) ∧ Aside0 (Below w.heap.size w wc))
 case first =>
  have H := HC8.out
  clear HC8
  by_cases c13 : (t101.length : Int) > 0
  ·rw [if_pos c13] at H
   have c13b0 : decide (0 < (t101.length : Int)) = true := decide_eq_true c13
   have c13b1 : decide (0 < t101.length) = true := decide_eq_true (by omega)
   clear c13
   (first | rw [c13b0] | rw [c13b1] | (simp only [i64_w, i32_w]; rw [c13b0]) | skip)
   replace H := Option.bind_eq_some_iff.mp H
   obtain ⟨t109, A140, H⟩ := H
   replace H : (if 0 ≤ t109 then (if t109 < (t101.length : Int) then ((abatisref01_Lower.f k ((rd_T26 t101 t109).f0)).bind fun t111 => (if y106.length < 8796093022208 then (abatislaw14_HeadHeaders.j0 k t101 t104 (y106 ++ [t111])) else (none))) else (none)) else (none)) = some r := H
   have A14 := Aside0.mk A140
   clear A140
   by_cases c15 : 0 ≤ t109
   ·rw [if_pos c15] at H
    have c15b0 : decide (0 ≤ t109) = true := decide_eq_true c15
    clear c15
    by_cases c16 : t109 < (t101.length : Int)
    ·rw [if_pos c16] at H
     have c16b0 : decide (t109 < (t101.length : Int)) = true := decide_eq_true c16
     clear c16
     replace H := Option.bind_eq_some_iff.mp H
     obtain ⟨t111, A170, H⟩ := H
     replace H : (if y106.length < 8796093022208 then (abatislaw14_HeadHeaders.j0 k t101 t104 (y106 ++ [t111])) else (none)) = some r := H
     have A17 := Aside0.mk A170
     clear A170
     by_cases c18 : y106.length < 8796093022208
     ·rw [if_pos c18] at H
      have LMc18 := Aside0.mk c18
      clear c18
      obtain ⟨y112, hy112⟩ : ∃ y_ : List ByteArray, y_ = (y106 ++ [t111]) := ⟨_, rfl⟩
      replace H : (abatislaw14_HeadHeaders.j0 k t101 t104 y112) = some r := by first | (rw [hy112]; with_reducible exact H) | (have H2_ := (Option.bind_some _ _).symm.trans H; rw [hy112]; with_reducible exact H2_) | (have H2_ := (Option.bind_some _ _).symm.trans H; with_reducible exact H2_) | with_reducible exact H | (rw [hy112]; exact H) | exact H
      have Ny112 := Aside0.mk hy112
      clear hy112
      have H' := Aside0.mk H
      clear H
      go_wp2_with (first | ((with_reducible refine gate_callee (f := 26) rfl ?_); refine goesL_ (some 33) rfl rfl Tryd.func26 (by kernel_rfl) rfl #[.int .i64 a3, .int .i64 (t101.length : Int)] rfl (by (try simp only [List.map_toArray, List.map_cons, List.map_nil]); first | done | rfl | (simp only [List.length_drop, List.length_take]; rfl)) ?_; (with_reducible refine (abatisref01_Around.calls a3 (t101.length : Int) t109 _ A14.out).mono ?_); rintro e w' ⟨rfl, ⟨nd, rfl⟩⟩; refine ⟨_, rfl, ?_⟩; have p110 : 0 ≤ (t109 : Int) := of_decide_eq_true (by first | (with_reducible assumption) | assumption); have q110 : t109 < (t101.length : Int) := of_decide_eq_true (by first | (with_reducible assumption) | assumption); obtain ⟨ad110, e110, hx110_0, hx110_1⟩ := at_T26 (Kd.R_reads' HO103.out).2.2 t109 p110 q110; cases e110; replace p110 := eq_true p110; replace q110 := eq_true q110) | ((with_reducible refine gate_callee (f := 25) rfl ?_); refine goesL_ (some 37) rfl rfl Tryd.func25 (by kernel_rfl) rfl #[.string ((rd_T26 t101 t109).f0)] rfl (by (try simp only [List.map_toArray, List.map_cons, List.map_nil]); first | done | rfl | (simp only [List.length_drop, List.length_take]; rfl)) ?_; (with_reducible refine (abatisref01_Lower.calls k ((rd_T26 t101 t109).f0) t111 _ A17.out).mono ?_); rintro e w19 ⟨rfl, hb⟩; refine ⟨_, rfl, ?_⟩; have n0_ := Aside0.mk (Kd.R_below (by (with_reducible repeat (first | apply Kd.R_alloc | apply Kd.R_drewN | apply Kd.R_drew)); exact HO103.out) hb); have n1_ := Aside0.mk (Kd.R_below (by (with_reducible repeat (first | apply Kd.R_alloc | apply Kd.R_drewN | apply Kd.R_drew)); exact HO108.out) hb); have n2_ := Aside0.mk (below_step (by repeat (first | (with_reducible first | exact HB.out | apply below_alloc | apply pw_below_drewN | apply below_drew1) | exact HB.out)) hb); clear HO103; clear HO108; clear HB; have HO103 := n0_; have HO108 := n1_; have HB := n2_; clear n0_ n1_ n2_; (try clear hb); (try clear hb2); (try clear hk); (try clear hi)) | ((with_reducible refine gate_builtin (b := .append) (xs := #[.tmp 28, .tmp 38]) rfl ?_); (try (refine gate_guard (by rfl) ?_; dsimp only)); at_builtin; refine Kd.R_append Kd.string (w0 := w) w.heap.size rfl (.tmp 28) (.tmp 38) 22 9 (.string ⟨#[]⟩) 16 rfl Tryd.underlying22 info9 rfl (by decide) (by omega) v107 y106 t111 [.string t111] (fun _ => True) (fun _ => False) rfl rfl ?aP (fun _ hk => hk.elim) ?aF ?aO ?aB ?aS ?aL ?_; (case aP => exact rfl); (case aB => exact (by repeat (first | (with_reducible first | exact HB.out | apply below_alloc | apply pw_below_drewN | apply below_drew1) | exact HB.out))); (case aF => exact (fun _ _ => trivial)); (case aO => exact (by (with_reducible repeat (first | apply Kd.R_alloc | apply Kd.R_drewN | apply Kd.R_drew)); exact HO108.out)); (case aS => exact (below_size (by repeat (first | (with_reducible first | exact HB.out | apply below_alloc | apply pw_below_drewN | apply below_drew1) | exact HB.out)))); (case aL => have := LMc18.out; omega); intro v113 w20 ho hb hg hat; rw [← Ny112.out] at ho; have n0_ := Aside0.mk (Kd.R_over' (by (with_reducible repeat (first | apply Kd.R_alloc | apply Kd.R_drewN | apply Kd.R_drew)); exact HO103.out) (Kd.R_typed (by (with_reducible repeat (first | apply Kd.R_alloc | apply Kd.R_drewN | apply Kd.R_drew)); exact HO108.out)) (by decide) hg); have n1_ := Aside0.mk (hb); have n2_ := Aside0.mk (ho); clear HO103; clear HB; clear HO108; have HO103 := n0_; have HB := n1_; have HO114 := n2_; clear n0_ n1_ n2_; clear ho hb hg hat))
      go_meet
      case rel => exact ⟨_, (y112), H', ⟨by first | omega | exact Nat.le_refl _⟩, ⟨by (with_reducible repeat (first | apply Kd.R_alloc | apply Kd.R_drewN | apply Kd.R_drew)); exact HO103.out⟩, ⟨by (with_reducible repeat (first | apply Kd.R_alloc | apply Kd.R_drewN | apply Kd.R_drew)); exact HO114.out⟩, ⟨by repeat (first | (with_reducible first | exact HB.out | apply below_alloc | apply pw_below_drewN | apply below_drew1) | exact HB.out)⟩⟩
     ·rw [if_neg c18] at H
      exact absurd H (by simp)
    ·rw [if_neg c16] at H
     exact absurd H (by simp)
   ·rw [if_neg c15] at H
    exact absurd H (by simp)
  ·rw [if_neg c13] at H
   have c13b0 : decide (0 < (t101.length : Int)) = false := decide_eq_false c13
   have c13b1 : decide (0 < t101.length) = false := decide_eq_false (by omega)
   clear c13
   (first | rw [c13b0] | rw [c13b1] | (simp only [i64_w, i32_w]; rw [c13b0]) | skip)
   have H' := Aside0.mk H
   clear H
   go_wp2
   go_meet
   case rel => exact ⟨_, (y106), H', ⟨by first | omega | exact Nat.le_refl _⟩, ⟨by (with_reducible repeat (first | apply Kd.R_alloc | apply Kd.R_drewN | apply Kd.R_drew)); exact HO103.out⟩, ⟨by (with_reducible repeat (first | apply Kd.R_alloc | apply Kd.R_drewN | apply Kd.R_drew)); exact HO108.out⟩, ⟨by repeat (first | (with_reducible first | exact HB.out | apply below_alloc | apply pw_below_drewN | apply below_drew1) | exact HB.out)⟩⟩
 case rest =>
  clear HC8
  try clear c1
  try clear p1
  try clear q1
  try clear hx1
  try clear c2
  try clear p2
  try clear c6
  try clear c7
  try clear p11
  try clear q11
  try clear hx11
  try clear c13
  try clear c13b0
  try clear c13b1
  try clear c14
  try clear c15
  try clear c15b0
  try clear c16
  try clear c16b0
  try clear c18
  try clear hx110_0
  try clear hx110_1
  try clear p110
  try clear q110
  obtain ⟨kq, x9_7, HA, HJ7, HO_0, HO_9, HB⟩ := hcut
  cases kq with
  | zero => exact absurd HA.out (by simp [abatislaw14_HeadHeaders.j0])
  | succ kj7 =>
   have H := HA.out
   clear HA
   simp only [abatislaw14_HeadHeaders.j0] at H
   by_cases c21 : ([] : List (S26)).length + t101.length < 4398046511104
   ·rw [if_pos c21] at H
    have LMc21 := Aside0.mk c21
    clear c21
    obtain ⟨y115, hy115⟩ : ∃ y_ : List (S26), y_ = (([] : List (S26)) ++ t101) := ⟨_, rfl⟩
    replace H : (abatislaw14_HeadHeaders.l0 kj7 t101 t104 x9_7 y115 0) = some r := by first | (rw [hy115]; with_reducible exact H) | (have H2_ := (Option.bind_some _ _).symm.trans H; rw [hy115]; with_reducible exact H2_) | (have H2_ := (Option.bind_some _ _).symm.trans H; with_reducible exact H2_) | with_reducible exact H | (rw [hy115]; exact H) | exact H
    have Ny115 := Aside0.mk hy115
    clear hy115
    have H' := Aside0.mk H
    clear H
    go_wp2_with (first | ((with_reducible refine gate_builtin (b := .append) (xs := #[.tmp 40, .tmp 41]) rfl ?_); (try (refine gate_guard (by rfl) ?_; dsimp only)); at_builtin; refine Kd.R_append_rows k26 (w0 := w) w.heap.size rfl (.tmp 40) (.tmp 41) 23 26 (.agg #[(.string ⟨#[]⟩), (.string ⟨#[]⟩)]) 32 rfl Tryd.underlying23 info26 rfl (by decide) (by omega) (.slice none 0 0) ([] : List (S26)) t101 _ _ _ (fun k_ => some k_ ≠ (.slice Ao12 t101.length co12 : Value).ownBlock) (fun _ => False) rfl rfl ?aO ?aR (fun _ _ h => h) (fun _ h => h.elim) ?aF ?aB ?aS ?aL ?_; (case aR => repeat (first | exact (Kd.R_reads' HO_0.out).2.2 | (with_reducible refine Kd.C_alloc ?_ _) | (with_reducible refine Kd.C_drewN ?_ _) | (with_reducible refine Kd.C_drew ?_))); (case aB => exact (by repeat (first | (with_reducible first | exact HB.out | apply below_alloc | apply pw_below_drewN | apply below_drew1) | exact HB.out))); (case aF => exact (fun k_ hk => Kd.fresh' (Kd.R_lt (by (with_reducible repeat (first | apply Kd.R_alloc | apply Kd.R_drewN | apply Kd.R_drew)); exact HO_0.out)) k_ hk)); (case aO => exact ((Kd.R_nil _ _ _ _ (fun k_ => some k_ ≠ (.slice Ao12 t101.length co12 : Value).ownBlock)))); (case aS => exact (below_size (by repeat (first | (with_reducible first | exact HB.out | apply below_alloc | apply pw_below_drewN | apply below_drew1) | exact HB.out)))); (case aL => have := LMc21.out; omega); intro v116 w22 ho hb hg hat; rw [← Ny115.out] at ho; have n0_ := Aside0.mk (Kd.R_after (Kd.R_apart_nil (by (with_reducible repeat (first | apply Kd.R_alloc | apply Kd.R_drewN | apply Kd.R_drew)); exact HO_0.out)) hg hat); have n1_ := Aside0.mk (Kd.R_grown (by (with_reducible repeat (first | apply Kd.R_alloc | apply Kd.R_drewN | apply Kd.R_drew)); exact HO_9.out) hg (fun _ _ => by simp [Value.ownBlock])); have n2_ := Aside0.mk (hb); have n3_ := Aside0.mk (ho); clear HO_0; clear HO_9; clear HB; have HO_0 := n0_; have HO_9 := n1_; have HB := n2_; have HO117 := n3_; clear n0_ n1_ n2_ n3_; clear ho hb hg hat))
    go_loopg [11] kj7 (fun kq v11 w' => ∃ (x11_2 : Int), v11 = .int .i64 x11_2 ∧ Aside0 (abatislaw14_HeadHeaders.l0 kq t101 t104 x9_7 y115 x11_2 = some r) ∧ Aside0 (kq ≤ kj7) ∧ Aside0 (Kd.R k26 26 w' w.heap.size (fun k_ => some k_ ≠ (v116 : Value).ownBlock) (.slice Ao12 t101.length co12) t101) ∧ Aside0 (Kd.R Kd.string 9 w' w.heap.size (fun _ => True) u9 x9_7) ∧ Aside0 (Kd.R k26 26 w' w.heap.size (fun k_ => some k_ ≠ ((.slice Ao12 t101.length co12) : Value).ownBlock) v116 y115) ∧ Aside0 (Below w.heap.size w w'))
    case atStart => exact ⟨(0), (by first | rfl | (simp; done) | (simp [*]; done) | (simp [bne]; done) | (simp [bne, *]; done)), H', ⟨Nat.le_refl _⟩, ⟨by (with_reducible repeat (first | apply Kd.R_alloc | apply Kd.R_drewN | apply Kd.R_drew)); exact Kd.R_mono HO_0.out (fun _ hk => hk.2)⟩, ⟨by (with_reducible repeat (first | apply Kd.R_alloc | apply Kd.R_drewN | apply Kd.R_drew)); exact HO_9.out⟩, ⟨by (with_reducible repeat (first | apply Kd.R_alloc | apply Kd.R_drewN | apply Kd.R_drew)); exact HO117.out⟩, ⟨by repeat (first | (with_reducible first | exact HB.out | apply below_alloc | apply pw_below_drewN | apply below_drew1) | exact HB.out)⟩⟩
    case round =>
     clear H'
     try clear c1
     try clear p1
     try clear q1
     try clear hx1
     try clear c2
     try clear p2
     try clear c6
     try clear c7
     try clear p11
     try clear q11
     try clear hx11
     try clear c13
     try clear c13b0
     try clear c13b1
     try clear c14
     try clear c15
     try clear c15b0
     try clear c16
     try clear c16b0
     try clear c18
     try clear c21
     try clear hx110_0
     try clear hx110_1
     try clear p1
     try clear p11
     try clear p110
     try clear p2
     try clear q1
     try clear q11
     try clear q110
     obtain ⟨x11_2, rfl, HA, HK2, HO_0, HO_9, HO_10, HB⟩ := hrel
     cases gk with
     | zero => exact absurd HA.out (by simp [abatislaw14_HeadHeaders.l0])
     | succ k2 =>
      have H := HA.out
      clear HA
      simp only [abatislaw14_HeadHeaders.l0] at H
      by_cases c23 : x11_2 < (x9_7.length : Int)
      ·rw [if_pos c23] at H
       have c23b0 : decide (x11_2 < (x9_7.length : Int)) = true := decide_eq_true c23
       clear c23
       by_cases c24 : 0 ≤ x11_2
       ·rw [if_pos c24] at H
        have c24b0 : decide (0 ≤ x11_2) = true := decide_eq_true c24
        clear c24
        replace H := Option.bind_eq_some_iff.mp H
        obtain ⟨t120, A250, H⟩ := H
        replace H : ((head_Get.f t101 (rdOf ByteArray.empty x9_7 x11_2)).bind fun bt124 => ((head_Set.f t101 (rdOf ByteArray.empty x9_7 x11_2) t104).bind fun t127 => ((head_Get.f t127 (rdOf ByteArray.empty x9_7 x11_2)).bind fun bt131 => ((head_All.f t101 (rdOf ByteArray.empty x9_7 x11_2)).bind fun t134 => ((abatisref01_Same.f k2 t134 t120).bind fun t137 => (if t137 = true then (if (bt124.2 != (decide ((t120.length : Int) > 0))) = true then (none) else (if bt131.1.toList = t104.toList then (abatislaw14_HeadHeaders.j2 k2 t101 t104 x9_7 y115 x11_2 t120 bt124.1 bt124.2 t127 (!bt131.2)) else (none))) else (none))))))) = some r := H
        have A25 := Aside0.mk A250
        clear A250
        replace H := Option.bind_eq_some_iff.mp H
        obtain ⟨⟨t124, t125⟩, A260, H⟩ := H
        replace H : ((head_Set.f t101 (rdOf ByteArray.empty x9_7 x11_2) t104).bind fun t127 => ((head_Get.f t127 (rdOf ByteArray.empty x9_7 x11_2)).bind fun bt131 => ((head_All.f t101 (rdOf ByteArray.empty x9_7 x11_2)).bind fun t134 => ((abatisref01_Same.f k2 t134 t120).bind fun t137 => (if t137 = true then (if (t125 != (decide ((t120.length : Int) > 0))) = true then (none) else (if bt131.1.toList = t104.toList then (abatislaw14_HeadHeaders.j2 k2 t101 t104 x9_7 y115 x11_2 t120 t124 t125 t127 (!bt131.2)) else (none))) else (none)))))) = some r := H
        have A26 := Aside0.mk A260
        clear A260
        replace H := Option.bind_eq_some_iff.mp H
        obtain ⟨t127, A270, H⟩ := H
        replace H : ((head_Get.f t127 (rdOf ByteArray.empty x9_7 x11_2)).bind fun bt131 => ((head_All.f t101 (rdOf ByteArray.empty x9_7 x11_2)).bind fun t134 => ((abatisref01_Same.f k2 t134 t120).bind fun t137 => (if t137 = true then (if (t125 != (decide ((t120.length : Int) > 0))) = true then (none) else (if bt131.1.toList = t104.toList then (abatislaw14_HeadHeaders.j2 k2 t101 t104 x9_7 y115 x11_2 t120 t124 t125 t127 (!bt131.2)) else (none))) else (none))))) = some r := H
        have A27 := Aside0.mk A270
        clear A270
        replace H := Option.bind_eq_some_iff.mp H
        obtain ⟨⟨t131, t132⟩, A280, H⟩ := H
        replace H : ((head_All.f t101 (rdOf ByteArray.empty x9_7 x11_2)).bind fun t134 => ((abatisref01_Same.f k2 t134 t120).bind fun t137 => (if t137 = true then (if (t125 != (decide ((t120.length : Int) > 0))) = true then (none) else (if t131.toList = t104.toList then (abatislaw14_HeadHeaders.j2 k2 t101 t104 x9_7 y115 x11_2 t120 t124 t125 t127 (!t132)) else (none))) else (none)))) = some r := H
        have A28 := Aside0.mk A280
        clear A280
        have HC29 := Aside0.mk H
        clear H
        obtain ⟨Ao30, co30, eo30⟩ := Kd.R_slice HO_9.out
        subst eo30
        have p119 : 0 ≤ (x11_2 : Int) := of_decide_eq_true (by first | (with_reducible assumption) | assumption)
        have q119 : x11_2 < (x9_7.length : Int) := of_decide_eq_true (by first | (with_reducible assumption) | assumption)
        obtain ⟨ad119, e119, hx119_0⟩ := Kd.at_string (Kd.R_reads' HO_9.out).2.2 x11_2 p119 q119
        cases e119
        replace p119 := eq_true p119
        replace q119 := eq_true q119
        go_upto_region 15 with (first | ((with_reducible refine gate_callee (f := 27) rfl ?_); refine goesL_ (some 54) rfl rfl Tryd.func27 (by kernel_rfl) rfl #[.slice Ao12 t101.length co12, .string (rdOf ByteArray.empty x9_7 x11_2)] rfl (by (try simp only [List.map_toArray, List.map_cons, List.map_nil]); first | done | rfl | (simp only [List.length_drop, List.length_take]; rfl)) ?_; (with_reducible refine (abatisref14_All.calls k2 _ _ t101 (rdOf ByteArray.empty x9_7 x11_2) t120 _ ?side1 ?side2 A25.out).mono ?_); (case side1 => repeat (first | exact (Kd.R_reads' HO_0.out).2.2 | (with_reducible refine Kd.C_alloc ?_ _) | (with_reducible refine Kd.C_drewN ?_ _) | (with_reducible refine Kd.C_drew ?_))); (case side2 => exact (Kd.R_reads' HO_0.out).2.1); rintro e w31 ⟨v121, rfl, ho0, hb⟩; refine ⟨_, rfl, ?_⟩; have n0_ := Aside0.mk (Kd.R_below (by (with_reducible repeat (first | apply Kd.R_alloc | apply Kd.R_drewN | apply Kd.R_drew)); exact HO_0.out) hb); have n1_ := Aside0.mk (Kd.R_elder' (by (with_reducible repeat (first | apply Kd.R_alloc | apply Kd.R_drewN | apply Kd.R_drew)); exact HO_9.out) (Kd.R_base ho0) hb); have n2_ := Aside0.mk (Kd.R_below (by (with_reducible repeat (first | apply Kd.R_alloc | apply Kd.R_drewN | apply Kd.R_drew)); exact HO_10.out) hb); have n3_ := Aside0.mk (Kd.R_lower (Kd.R_new' ho0 (Kd.R_lt (by (with_reducible repeat (first | apply Kd.R_alloc | apply Kd.R_drewN | apply Kd.R_drew)); exact HO_9.out))) (below_size (by repeat (first | (with_reducible first | exact HB.out | apply below_alloc | apply pw_below_drewN | apply below_drew1) | exact HB.out)))); have n4_ := Aside0.mk (below_step (by repeat (first | (with_reducible first | exact HB.out | apply below_alloc | apply pw_below_drewN | apply below_drew1) | exact HB.out)) hb); clear HO_0; clear HO_9; clear HO_10; clear HB; have HO_0 := n0_; have HO_9 := n1_; have HO_10 := n2_; have HO122 := n3_; have HB := n4_; clear n0_ n1_ n2_ n3_ n4_; (try clear hb); (try clear hb2); (try clear hk); (try clear hi); (try clear ho0); have p123 : 0 ≤ (x11_2 : Int) := of_decide_eq_true (by first | (with_reducible assumption) | assumption); have q123 : x11_2 < (x9_7.length : Int) := of_decide_eq_true (by first | (with_reducible assumption) | assumption); obtain ⟨ad123, e123, hx123_0⟩ := Kd.at_string (Kd.R_reads' HO_9.out).2.2 x11_2 p123 q123; obtain rfl : ad119 = ad123 := (by injection e123); replace p123 := eq_true p123; replace q123 := eq_true q123) | ((with_reducible refine gate_callee (f := 22) rfl ?_); refine goesL_ (some 61) rfl rfl Tryd.func22 (by kernel_rfl) rfl #[.slice Ao12 t101.length co12, .string (rdOf ByteArray.empty x9_7 x11_2)] rfl (by (try simp only [List.map_toArray, List.map_cons, List.map_nil]); first | done | rfl | (simp only [List.length_drop, List.length_take]; rfl)) ?_; (with_reducible refine (head_Get.calls _ _ t101 (rdOf ByteArray.empty x9_7 x11_2) t124 t125 _ ?side1 ?side2 A26.out).mono ?_); (case side1 => repeat (first | exact (Kd.R_reads' HO_0.out).2.2 | (with_reducible refine Kd.C_alloc ?_ _) | (with_reducible refine Kd.C_drewN ?_ _) | (with_reducible refine Kd.C_drew ?_))); (case side2 => exact (Kd.R_reads' HO_0.out).2.1); rintro e w32 ⟨rfl, hb⟩; refine ⟨_, rfl, ?_⟩; have n0_ := Aside0.mk (Kd.R_below (by (with_reducible repeat (first | apply Kd.R_alloc | apply Kd.R_drewN | apply Kd.R_drew)); exact HO_0.out) hb); have n1_ := Aside0.mk (Kd.R_below (by (with_reducible repeat (first | apply Kd.R_alloc | apply Kd.R_drewN | apply Kd.R_drew)); exact HO_9.out) hb); have n2_ := Aside0.mk (Kd.R_below (by (with_reducible repeat (first | apply Kd.R_alloc | apply Kd.R_drewN | apply Kd.R_drew)); exact HO_10.out) hb); have n3_ := Aside0.mk (Kd.R_below (by (with_reducible repeat (first | apply Kd.R_alloc | apply Kd.R_drewN | apply Kd.R_drew)); exact HO122.out) hb); have n4_ := Aside0.mk (below_step (by repeat (first | (with_reducible first | exact HB.out | apply below_alloc | apply pw_below_drewN | apply below_drew1) | exact HB.out)) hb); clear HO_0; clear HO_9; clear HO_10; clear HO122; clear HB; have HO_0 := n0_; have HO_9 := n1_; have HO_10 := n2_; have HO122 := n3_; have HB := n4_; clear n0_ n1_ n2_ n3_ n4_; (try clear hb); (try clear hb2); (try clear hk); (try clear hi); have p126 : 0 ≤ (x11_2 : Int) := of_decide_eq_true (by first | (with_reducible assumption) | assumption); have q126 : x11_2 < (x9_7.length : Int) := of_decide_eq_true (by first | (with_reducible assumption) | assumption); obtain ⟨ad126, e126, hx126_0⟩ := Kd.at_string (Kd.R_reads' HO_9.out).2.2 x11_2 p126 q126; obtain rfl : ad119 = ad126 := (by injection e126); replace p126 := eq_true p126; replace q126 := eq_true q126) | ((with_reducible refine gate_callee (f := 19) rfl ?_); refine goesL_ (some 70) rfl rfl Tryd.func19 (by kernel_rfl) rfl #[.slice Ao12 t101.length co12, .string (rdOf ByteArray.empty x9_7 x11_2), .string t104] rfl (by (try simp only [List.map_toArray, List.map_cons, List.map_nil]); first | done | rfl | (simp only [List.length_drop, List.length_take]; rfl)) ?_; (with_reducible refine (head_Set.calls _ _ t101 (rdOf ByteArray.empty x9_7 x11_2) t104 t127 _ ?side1 ?side2 A27.out).mono ?_); (case side1 => repeat (first | exact (Kd.R_reads' HO_0.out).2.2 | (with_reducible refine Kd.C_alloc ?_ _) | (with_reducible refine Kd.C_drewN ?_ _) | (with_reducible refine Kd.C_drew ?_))); (case side2 => exact (Kd.R_reads' HO_0.out).2.1); rintro e w33 ⟨v128, rfl, ho0, hb⟩; refine ⟨_, rfl, ?_⟩; have n0_ := Aside0.mk (Kd.R_elder' (by (with_reducible repeat (first | apply Kd.R_alloc | apply Kd.R_drewN | apply Kd.R_drew)); exact HO_0.out) (Kd.R_base ho0) hb); have n1_ := Aside0.mk (Kd.R_below (by (with_reducible repeat (first | apply Kd.R_alloc | apply Kd.R_drewN | apply Kd.R_drew)); exact HO_9.out) hb); have n2_ := Aside0.mk (Kd.R_elder' (by (with_reducible repeat (first | apply Kd.R_alloc | apply Kd.R_drewN | apply Kd.R_drew)); exact HO_10.out) (Kd.R_base ho0) hb); have n3_ := Aside0.mk (Kd.R_below (by (with_reducible repeat (first | apply Kd.R_alloc | apply Kd.R_drewN | apply Kd.R_drew)); exact HO122.out) hb); have n4_ := Aside0.mk (Kd.R_lower (Kd.R_new' (Kd.R_new' ho0 (Kd.R_lt (by (with_reducible repeat (first | apply Kd.R_alloc | apply Kd.R_drewN | apply Kd.R_drew)); exact HO_0.out))) (Kd.R_lt (by (with_reducible repeat (first | apply Kd.R_alloc | apply Kd.R_drewN | apply Kd.R_drew)); exact HO_10.out))) (below_size (by repeat (first | (with_reducible first | exact HB.out | apply below_alloc | apply pw_below_drewN | apply below_drew1) | exact HB.out)))); have n5_ := Aside0.mk (below_step (by repeat (first | (with_reducible first | exact HB.out | apply below_alloc | apply pw_below_drewN | apply below_drew1) | exact HB.out)) hb); clear HO_0; clear HO_9; clear HO_10; clear HO122; clear HB; have HO_0 := n0_; have HO_9 := n1_; have HO_10 := n2_; have HO122 := n3_; have HO129 := n4_; have HB := n5_; clear n0_ n1_ n2_ n3_ n4_ n5_; (try clear hb); (try clear hb2); (try clear hk); (try clear hi); (try clear ho0); have p130 : 0 ≤ (x11_2 : Int) := of_decide_eq_true (by first | (with_reducible assumption) | assumption); have q130 : x11_2 < (x9_7.length : Int) := of_decide_eq_true (by first | (with_reducible assumption) | assumption); obtain ⟨ad130, e130, hx130_0⟩ := Kd.at_string (Kd.R_reads' HO_9.out).2.2 x11_2 p130 q130; obtain rfl : ad119 = ad130 := (by injection e130); replace p130 := eq_true p130; replace q130 := eq_true q130; obtain ⟨Ao34, co34, eo34⟩ := Kd.R_slice HO129.out; subst eo34) | ((with_reducible refine gate_callee (f := 22) rfl ?_); refine goesL_ (some 77) rfl rfl Tryd.func22 (by kernel_rfl) rfl #[.slice Ao34 t127.length co34, .string (rdOf ByteArray.empty x9_7 x11_2)] rfl (by (try simp only [List.map_toArray, List.map_cons, List.map_nil]); first | done | rfl | (simp only [List.length_drop, List.length_take]; rfl)) ?_; (with_reducible refine (head_Get.calls _ _ t127 (rdOf ByteArray.empty x9_7 x11_2) t131 t132 _ ?side1 ?side2 A28.out).mono ?_); (case side1 => repeat (first | exact (Kd.R_reads' HO129.out).2.2 | (with_reducible refine Kd.C_alloc ?_ _) | (with_reducible refine Kd.C_drewN ?_ _) | (with_reducible refine Kd.C_drew ?_))); (case side2 => exact (Kd.R_reads' HO129.out).2.1); rintro e w35 ⟨rfl, hb⟩; refine ⟨_, rfl, ?_⟩; have n0_ := Aside0.mk (Kd.R_below (by (with_reducible repeat (first | apply Kd.R_alloc | apply Kd.R_drewN | apply Kd.R_drew)); exact HO_0.out) hb); have n1_ := Aside0.mk (Kd.R_below (by (with_reducible repeat (first | apply Kd.R_alloc | apply Kd.R_drewN | apply Kd.R_drew)); exact HO_9.out) hb); have n2_ := Aside0.mk (Kd.R_below (by (with_reducible repeat (first | apply Kd.R_alloc | apply Kd.R_drewN | apply Kd.R_drew)); exact HO_10.out) hb); have n3_ := Aside0.mk (Kd.R_below (by (with_reducible repeat (first | apply Kd.R_alloc | apply Kd.R_drewN | apply Kd.R_drew)); exact HO122.out) hb); have n4_ := Aside0.mk (Kd.R_below (by (with_reducible repeat (first | apply Kd.R_alloc | apply Kd.R_drewN | apply Kd.R_drew)); exact HO129.out) hb); have n5_ := Aside0.mk (below_step (by repeat (first | (with_reducible first | exact HB.out | apply below_alloc | apply pw_below_drewN | apply below_drew1) | exact HB.out)) hb); clear HO_0; clear HO_9; clear HO_10; clear HO122; clear HO129; clear HB; have HO_0 := n0_; have HO_9 := n1_; have HO_10 := n2_; have HO122 := n3_; have HO129 := n4_; have HB := n5_; clear n0_ n1_ n2_ n3_ n4_ n5_; (try clear hb); (try clear hb2); (try clear hk); (try clear hi)))
        (try simp only [Act.put, List.setIfInBounds_toArray, List.set_cons_zero, List.set_cons_succ])
        go_cut [104] (fun v104 wc => ∃ (kq : Nat) (x104_28 : Bool), v104 = .bool x104_28 ∧ Aside0 (abatislaw14_HeadHeaders.j2 kq t101 t104 x9_7 y115 x11_2 t120 t124 t125 t127 x104_28 = some r) ∧ Aside0 (kq ≤ k2) ∧ Aside0 (Kd.R k26 26 wc w.heap.size (fun k_ => some k_ ≠ (v116 : Value).ownBlock ∧ some k_ ≠ ((.slice Ao34 t127.length co34) : Value).ownBlock) (.slice Ao12 t101.length co12) t101) ∧ Aside0 (Kd.R Kd.string 9 wc w.heap.size (fun k_ => some k_ ≠ (v121 : Value).ownBlock) (.slice (some ad119) x9_7.length co30) x9_7) ∧ Aside0 (Kd.R k26 26 wc w.heap.size (fun k_ => some k_ ≠ ((.slice Ao12 t101.length co12) : Value).ownBlock ∧ some k_ ≠ ((.slice Ao34 t127.length co34) : Value).ownBlock) v116 y115) ∧ Aside0 (Kd.R Kd.string 9 wc w.heap.size (fun k_ => some k_ ≠ ((.slice (some ad119) x9_7.length co30) : Value).ownBlock) v121 t120) ∧ Aside0 (Kd.R k26 26 wc w.heap.size (fun k_ => some k_ ≠ ((.slice Ao12 t101.length co12) : Value).ownBlock ∧ some k_ ≠ (v116 : Value).ownBlock) (.slice Ao34 t127.length co34) t127) ∧ Aside0 (Below w.heap.size w wc))
        case first =>
         have H := HC29.out
         clear HC29
         replace H := Option.bind_eq_some_iff.mp H
         obtain ⟨t134, A360, H⟩ := H
         replace H : ((abatisref01_Same.f k2 t134 t120).bind fun t137 => (if t137 = true then (if (t125 != (decide ((t120.length : Int) > 0))) = true then (none) else (if t131.toList = t104.toList then (abatislaw14_HeadHeaders.j2 k2 t101 t104 x9_7 y115 x11_2 t120 t124 t125 t127 (!t132)) else (none))) else (none))) = some r := H
         have A36 := Aside0.mk A360
         clear A360
         replace H := Option.bind_eq_some_iff.mp H
         obtain ⟨t137, A370, H⟩ := H
         replace H : (if t137 = true then (if (t125 != (decide ((t120.length : Int) > 0))) = true then (none) else (if t131.toList = t104.toList then (abatislaw14_HeadHeaders.j2 k2 t101 t104 x9_7 y115 x11_2 t120 t124 t125 t127 (!t132)) else (none))) else (none)) = some r := H
         have A37 := Aside0.mk A370
         clear A370
         by_cases c38 : t137 = true
         ·subst c38
          have H1 : (if (t125 != (decide ((t120.length : Int) > 0))) = true then (none) else (if t131.toList = t104.toList then (abatislaw14_HeadHeaders.j2 k2 t101 t104 x9_7 y115 x11_2 t120 t124 t125 t127 (!t132)) else (none))) = some r := by rw [if_pos rfl] at H; exact H
          clear H
          have H := H1
          clear H1
          by_cases c39 : (t125 != (decide ((t120.length : Int) > 0))) = true
          ·rw [if_pos c39] at H
           exact absurd H (by simp)
          ·rw [if_neg c39] at H
           have c39b0 : (t125 != (decide ((t120.length : Int) > 0))) = false := by simpa using c39
           obtain rfl : t125 = decide (0 < t120.length) := by simpa using c39b0
           clear c39
           (first | rw [c39b0] | rw [c39b1] | (simp only [i64_w, i32_w]; rw [c39b0]) | skip)
           by_cases c40 : t131.toList = t104.toList
           ·rw [if_pos c40] at H
            have c40b0 : (t131.toList == t104.toList) = true := beq_iff_eq.mpr c40
            have c40b1 : (t131.toList != t104.toList) = false := bne_eq_false_iff_eq.mpr c40
            clear c40
            have H' := Aside0.mk H
            clear H
            have p133 : 0 ≤ (x11_2 : Int) := of_decide_eq_true (by first | (with_reducible assumption) | assumption)
            have q133 : x11_2 < (x9_7.length : Int) := of_decide_eq_true (by first | (with_reducible assumption) | assumption)
            obtain ⟨ad133, e133, hx133_0⟩ := Kd.at_string (Kd.R_reads' HO_9.out).2.2 x11_2 p133 q133
            obtain rfl : ad119 = ad133 := (by injection e133)
            replace p133 := eq_true p133
            replace q133 := eq_true q133
            go_wp2_with (first | ((with_reducible refine gate_callee (f := 21) rfl ?_); refine goesL_ (some 85) rfl rfl Tryd.func21 (by kernel_rfl) rfl #[.slice Ao12 t101.length co12, .string (rdOf ByteArray.empty x9_7 x11_2)] rfl (by (try simp only [List.map_toArray, List.map_cons, List.map_nil]); first | done | rfl | (simp only [List.length_drop, List.length_take]; rfl)) ?_; (with_reducible refine (head_All.calls _ _ t101 (rdOf ByteArray.empty x9_7 x11_2) t134 _ ?side1 ?side2 A36.out).mono ?_); (case side1 => repeat (first | exact (Kd.R_reads' HO_0.out).2.2 | (with_reducible refine Kd.C_alloc ?_ _) | (with_reducible refine Kd.C_drewN ?_ _) | (with_reducible refine Kd.C_drew ?_))); (case side2 => exact (Kd.R_reads' HO_0.out).2.1); rintro e w41 ⟨v135, rfl, ho0, hb⟩; refine ⟨_, rfl, ?_⟩; have n0_ := Aside0.mk (Kd.R_below (by (with_reducible repeat (first | apply Kd.R_alloc | apply Kd.R_drewN | apply Kd.R_drew)); exact HO_0.out) hb); have n1_ := Aside0.mk (Kd.R_elder' (by (with_reducible repeat (first | apply Kd.R_alloc | apply Kd.R_drewN | apply Kd.R_drew)); exact HO_9.out) (Kd.R_base ho0) hb); have n2_ := Aside0.mk (Kd.R_below (by (with_reducible repeat (first | apply Kd.R_alloc | apply Kd.R_drewN | apply Kd.R_drew)); exact HO_10.out) hb); have n3_ := Aside0.mk (Kd.R_elder' (by (with_reducible repeat (first | apply Kd.R_alloc | apply Kd.R_drewN | apply Kd.R_drew)); exact HO122.out) (Kd.R_base ho0) hb); have n4_ := Aside0.mk (Kd.R_below (by (with_reducible repeat (first | apply Kd.R_alloc | apply Kd.R_drewN | apply Kd.R_drew)); exact HO129.out) hb); have n5_ := Aside0.mk (Kd.R_lower (Kd.R_new' (Kd.R_new' ho0 (Kd.R_lt (by (with_reducible repeat (first | apply Kd.R_alloc | apply Kd.R_drewN | apply Kd.R_drew)); exact HO_9.out))) (Kd.R_lt (by (with_reducible repeat (first | apply Kd.R_alloc | apply Kd.R_drewN | apply Kd.R_drew)); exact HO122.out))) (below_size (by repeat (first | (with_reducible first | exact HB.out | apply below_alloc | apply pw_below_drewN | apply below_drew1) | exact HB.out)))); have n6_ := Aside0.mk (below_step (by repeat (first | (with_reducible first | exact HB.out | apply below_alloc | apply pw_below_drewN | apply below_drew1) | exact HB.out)) hb); clear HO_0; clear HO_9; clear HO_10; clear HO122; clear HO129; clear HB; have HO_0 := n0_; have HO_9 := n1_; have HO_10 := n2_; have HO122 := n3_; have HO129 := n4_; have HO136 := n5_; have HB := n6_; clear n0_ n1_ n2_ n3_ n4_ n5_ n6_; (try clear hb); (try clear hb2); (try clear hk); (try clear hi); (try clear ho0); obtain ⟨Ao42, co42, eo42⟩ := Kd.R_slice HO136.out; subst eo42; obtain ⟨Ao43, co43, eo43⟩ := Kd.R_slice HO122.out; subst eo43) | ((with_reducible refine gate_callee (f := 12) rfl ?_); refine goesL_ (some 87) rfl rfl Tryd.func12 (by kernel_rfl) rfl #[.slice Ao42 t134.length co42, .slice Ao43 t120.length co43] rfl (by (try simp only [List.map_toArray, List.map_cons, List.map_nil]); first | done | rfl | (simp only [List.length_drop, List.length_take]; rfl)) ?_; (with_reducible refine (abatisref01_Same.calls k2 _ _ t134 _ _ t120 true _ ?side1 ?side2 ?side3 ?side4 A37.out).mono ?_); (case side1 => repeat (first | exact (Kd.R_reads' HO136.out).2.2 | (with_reducible refine Kd.C_alloc ?_ _) | (with_reducible refine Kd.C_drewN ?_ _) | (with_reducible refine Kd.C_drew ?_))); (case side2 => exact (Kd.R_reads' HO136.out).2.1); (case side3 => repeat (first | exact (Kd.R_reads' HO122.out).2.2 | (with_reducible refine Kd.C_alloc ?_ _) | (with_reducible refine Kd.C_drewN ?_ _) | (with_reducible refine Kd.C_drew ?_))); (case side4 => exact (Kd.R_reads' HO122.out).2.1); rintro e w' ⟨rfl, ⟨nd, rfl⟩⟩; refine ⟨_, rfl, ?_⟩))
            go_meet
            case rel => exact ⟨_, (!t132), (by first | rfl | (simp; done) | (simp [*]; done) | (simp [bne]; done) | (simp [bne, *]; done)), H', ⟨by have := HJ7.out; have := HK2.out; first | omega | exact Nat.le_refl _⟩, ⟨by (with_reducible repeat (first | apply Kd.R_alloc | apply Kd.R_drewN | apply Kd.R_drew)); exact HO_0.out⟩, ⟨by (with_reducible repeat (first | apply Kd.R_alloc | apply Kd.R_drewN | apply Kd.R_drew)); exact Kd.R_mono HO_9.out (fun _ hk => hk.1.2)⟩, ⟨by (with_reducible repeat (first | apply Kd.R_alloc | apply Kd.R_drewN | apply Kd.R_drew)); exact HO_10.out⟩, ⟨by (with_reducible repeat (first | apply Kd.R_alloc | apply Kd.R_drewN | apply Kd.R_drew)); exact Kd.R_mono HO122.out (fun _ hk => hk.1.2)⟩, ⟨by (with_reducible repeat (first | apply Kd.R_alloc | apply Kd.R_drewN | apply Kd.R_drew)); exact Kd.R_mono HO129.out (fun _ hk => ⟨hk.1.2, hk.2⟩)⟩, ⟨by repeat (first | (with_reducible first | exact HB.out | apply below_alloc | apply pw_below_drewN | apply below_drew1) | exact HB.out)⟩⟩
           ·rw [if_neg c40] at H
            exact absurd H (by simp)
         ·replace c38 := Bool.eq_false_iff.mpr c38
          subst c38
          have H1 : (none) = some r := by rw [if_neg (show ¬ (false = true) by decide)] at H; exact H
          clear H
          have H := H1
          clear H1
          exact absurd H (by simp)
        case rest =>
         clear HC29
         try clear c1
         try clear p1
         try clear q1
         try clear hx1
         try clear c2
         try clear p2
         try clear c3
         try clear c4
         try clear c6
         try clear c7
         try clear p11
         try clear q11
         try clear hx11
         try clear c12
         try clear p12
         try clear q12
         try clear hx12
         try clear c13
         try clear c13b0
         try clear c13b1
         try clear p13
         try clear q13
         try clear hx13
         try clear c14
         try clear c15
         try clear c15b0
         try clear c16
         try clear c16b0
         try clear c18
         try clear c19
         try clear c21
         try clear c22
         try clear c23
         try clear c23b0
         try clear c24
         try clear c24b0
         try clear c25
         try clear c26
         try clear c27
         try clear c38
         try clear c39
         try clear c39b0
         try clear c39b1
         try clear c39b2
         try clear c40
         try clear c40b0
         try clear c40b1
         try clear hx110_0
         try clear hx110_1
         try clear hx119_0
         try clear hx123_0
         try clear hx126_0
         try clear hx130_0
         try clear hx133_0
         try clear p1
         try clear p11
         try clear p110
         try clear p119
         try clear p123
         try clear p126
         try clear p130
         try clear p133
         try clear p2
         try clear q1
         try clear q11
         try clear q110
         try clear q119
         try clear q123
         try clear q126
         try clear q130
         try clear q133
         obtain ⟨kq, x104_28, rfl, HA, HJ28, HO_0, HO_9, HO_10, HO_12, HO_15, HB⟩ := hcut
         cases kq with
         | zero => exact absurd HA.out (by simp [abatislaw14_HeadHeaders.j2])
         | succ kj28 =>
          have H := HA.out
          clear HA
          simp only [abatislaw14_HeadHeaders.j2] at H
          by_cases c44 : x104_28 = true
          ·subst c44
           have H1 : (none) = some r := by rw [if_pos rfl] at H; exact H
           clear H
           have H := H1
           clear H1
           exact absurd H (by simp)
          ·replace c44 := Bool.eq_false_iff.mpr c44
           subst c44
           have H1 : (if t125 = true then (if 0 < (t120.length : Int) then (if t124.toList = (rdOf ByteArray.empty t120 0).toList then (abatislaw14_HeadHeaders.j3 kj28 t101 t104 x9_7 y115 x11_2 t127 false) else (none)) else (none)) else (abatislaw14_HeadHeaders.j3 kj28 t101 t104 x9_7 y115 x11_2 t127 (t124.toList != ([] : List UInt8)))) = some r := by rw [if_neg (show ¬ (false = true) by decide)] at H; exact H
           clear H
           have H := H1
           clear H1
           have HC45 := Aside0.mk H
           clear H
           go_upto_region 17 with (fail)
           go_cut [120] (fun v120 wc => ∃ (kq : Nat) (x120_44 : Bool), v120 = .bool x120_44 ∧ Aside0 (abatislaw14_HeadHeaders.j3 kq t101 t104 x9_7 y115 x11_2 t127 x120_44 = some r) ∧ Aside0 (kq ≤ kj28) ∧ Aside0 (Kd.R k26 26 wc w.heap.size (fun k_ => some k_ ≠ (v116 : Value).ownBlock ∧ some k_ ≠ ((.slice Ao34 t127.length co34) : Value).ownBlock) (.slice Ao12 t101.length co12) t101) ∧ Aside0 (Kd.R Kd.string 9 wc w.heap.size (fun _ => True) (.slice (some ad119) x9_7.length co30) x9_7) ∧ Aside0 (Kd.R k26 26 wc w.heap.size (fun k_ => some k_ ≠ ((.slice Ao12 t101.length co12) : Value).ownBlock ∧ some k_ ≠ ((.slice Ao34 t127.length co34) : Value).ownBlock) v116 y115) ∧ Aside0 (Kd.R k26 26 wc w.heap.size (fun k_ => some k_ ≠ ((.slice Ao12 t101.length co12) : Value).ownBlock ∧ some k_ ≠ (v116 : Value).ownBlock) (.slice Ao34 t127.length co34) t127) ∧ Aside0 (Below w.heap.size w wc))
           case first =>
            have H := HC45.out
            clear HC45
            by_cases c46 : t125 = true
            ·subst c46
             have H1 : (if 0 < (t120.length : Int) then (if t124.toList = (rdOf ByteArray.empty t120 0).toList then (abatislaw14_HeadHeaders.j3 kj28 t101 t104 x9_7 y115 x11_2 t127 false) else (none)) else (none)) = some r := by rw [if_pos rfl] at H; exact H
             clear H
             have H := H1
             clear H1
             by_cases c47 : 0 < (t120.length : Int)
             ·rw [if_pos c47] at H
              have c47b0 : decide (0 < (t120.length : Int)) = true := decide_eq_true c47
              have c47b1 : decide (0 < t120.length) = true := decide_eq_true (by omega)
              clear c47
              (first | rw [c47b0] | rw [c47b1] | (simp only [i64_w, i32_w]; rw [c47b0]) | skip)
              by_cases c48 : t124.toList = (rdOf ByteArray.empty t120 0).toList
              ·rw [if_pos c48] at H
               have c48b0 : (t124.toList == (rdOf ByteArray.empty t120 0).toList) = true := beq_iff_eq.mpr c48
               have c48b1 : (t124.toList != (rdOf ByteArray.empty t120 0).toList) = false := bne_eq_false_iff_eq.mpr c48
               clear c48
               have H' := Aside0.mk H
               clear H
               obtain ⟨Ao49, co49, eo49⟩ := Kd.R_slice HO_12.out
               subst eo49
               have p138 : 0 ≤ (0 : Int) := (by omega)
               have q138 : 0 < (t120.length : Int) := of_decide_eq_true (by first | (with_reducible assumption) | assumption)
               obtain ⟨ad138, e138, hx138_0⟩ := Kd.at_string (Kd.R_reads' HO_12.out).2.2 0 p138 q138
               cases e138
               have qi138 : (0 < t120.length) = True := eq_true (by omega)
               (try rw [show ((0 : Int)).toNat = 0 from rfl] at hx138_0)
               (try rw [Addr.add_zero'] at hx138_0)
               replace p138 := eq_true p138
               replace q138 := eq_true q138
               go_wp2
               go_meet
               case rel => exact ⟨_, (false), (by first | rfl | (simp; done) | (simp [*]; done) | (simp [bne]; done) | (simp [bne, *]; done)), H', ⟨by have := HJ7.out; have := HK2.out; have := HJ28.out; first | omega | exact Nat.le_refl _⟩, ⟨by (with_reducible repeat (first | apply Kd.R_alloc | apply Kd.R_drewN | apply Kd.R_drew)); exact HO_0.out⟩, ⟨by (with_reducible repeat (first | apply Kd.R_alloc | apply Kd.R_drewN | apply Kd.R_drew)); exact Kd.R_mono HO_9.out (fun _ hk => trivial)⟩, ⟨by (with_reducible repeat (first | apply Kd.R_alloc | apply Kd.R_drewN | apply Kd.R_drew)); exact HO_10.out⟩, ⟨by (with_reducible repeat (first | apply Kd.R_alloc | apply Kd.R_drewN | apply Kd.R_drew)); exact HO_15.out⟩, ⟨by repeat (first | (with_reducible first | exact HB.out | apply below_alloc | apply pw_below_drewN | apply below_drew1) | exact HB.out)⟩⟩
              ·rw [if_neg c48] at H
               exact absurd H (by simp)
             ·rw [if_neg c47] at H
              exact absurd H (by simp)
            ·replace c46 := Bool.eq_false_iff.mpr c46
             subst c46
             have H1 : (abatislaw14_HeadHeaders.j3 kj28 t101 t104 x9_7 y115 x11_2 t127 (t124.toList != ([] : List UInt8))) = some r := by rw [if_neg (show ¬ (false = true) by decide)] at H; exact H
             clear H
             have H := H1
             clear H1
             have H' := Aside0.mk H
             clear H
             go_wp2
             go_meet
             case rel => exact ⟨_, ((t124.toList != ([] : List UInt8))), (by first | rfl | (simp; done) | (simp [*]; done) | (simp [bne]; done) | (simp [bne, *]; done)), H', ⟨by have := HJ7.out; have := HK2.out; have := HJ28.out; first | omega | exact Nat.le_refl _⟩, ⟨by (with_reducible repeat (first | apply Kd.R_alloc | apply Kd.R_drewN | apply Kd.R_drew)); exact HO_0.out⟩, ⟨by (with_reducible repeat (first | apply Kd.R_alloc | apply Kd.R_drewN | apply Kd.R_drew)); exact Kd.R_mono HO_9.out (fun _ hk => trivial)⟩, ⟨by (with_reducible repeat (first | apply Kd.R_alloc | apply Kd.R_drewN | apply Kd.R_drew)); exact HO_10.out⟩, ⟨by (with_reducible repeat (first | apply Kd.R_alloc | apply Kd.R_drewN | apply Kd.R_drew)); exact HO_15.out⟩, ⟨by repeat (first | (with_reducible first | exact HB.out | apply below_alloc | apply pw_below_drewN | apply below_drew1) | exact HB.out)⟩⟩
           case rest =>
            clear HC45
            try clear c1
            try clear p1
            try clear q1
            try clear hx1
            try clear qi1
            try clear c2
            try clear p2
            try clear c3
            try clear c4
            try clear c6
            try clear c7
            try clear p11
            try clear q11
            try clear hx11
            try clear c12
            try clear p12
            try clear q12
            try clear hx12
            try clear c13
            try clear c13b0
            try clear c13b1
            try clear p13
            try clear q13
            try clear hx13
            try clear qi13
            try clear c14
            try clear c15
            try clear c15b0
            try clear c16
            try clear c16b0
            try clear c18
            try clear c19
            try clear c21
            try clear c22
            try clear c23
            try clear c23b0
            try clear c24
            try clear c24b0
            try clear c25
            try clear c26
            try clear c27
            try clear c38
            try clear c39
            try clear c39b0
            try clear c39b1
            try clear c39b2
            try clear c40
            try clear c40b0
            try clear c40b1
            try clear c44
            try clear c46
            try clear c47
            try clear c47b0
            try clear c47b1
            try clear c48
            try clear c48b0
            try clear c48b1
            try clear hx110_0
            try clear hx110_1
            try clear hx119_0
            try clear hx123_0
            try clear hx126_0
            try clear hx130_0
            try clear hx133_0
            try clear hx138_0
            try clear p1
            try clear p11
            try clear p110
            try clear p119
            try clear p12
            try clear p123
            try clear p126
            try clear p13
            try clear p130
            try clear p133
            try clear p138
            try clear p2
            try clear q1
            try clear q11
            try clear q110
            try clear q119
            try clear q12
            try clear q123
            try clear q126
            try clear q13
            try clear q130
            try clear q133
            try clear q138
            obtain ⟨kq, x120_44, rfl, HA, HJ44, HO_0, HO_9, HO_10, HO_15, HB⟩ := hcut
            cases kq with
            | zero => exact absurd HA.out (by simp [abatislaw14_HeadHeaders.j3])
            | succ kj44 =>
             have H := HA.out
             clear HA
             simp only [abatislaw14_HeadHeaders.j3] at H
             by_cases c50 : x120_44 = true
             ·subst c50
              have H1 : (none) = some r := by rw [if_pos rfl] at H; exact H
              clear H
              have H := H1
              clear H1
              exact absurd H (by simp)
             ·replace c50 := Bool.eq_false_iff.mpr c50
              subst c50
              have H1 : (if 0 ≤ x11_2 then (if x11_2 < (x9_7.length : Int) then ((head_List.f kj44 t101 (rdOf ByteArray.empty x9_7 x11_2)).bind fun t140 => ((abatisref14_List.f kj44 t101 (rdOf ByteArray.empty x9_7 x11_2)).bind fun t144 => ((abatisref01_Same.f kj44 t140 t144).bind fun t147 => (if t147 = true then ((abatisref14_Set.f kj44 t101 (rdOf ByteArray.empty x9_7 x11_2) t104).bind fun t149 => ((abatisref14_Same.f kj44 t127 t149).bind fun t152 => (if t152 = true then ((head_Drop.f t101 (rdOf ByteArray.empty x9_7 x11_2)).bind fun t154 => ((abatisref14_Drop.f kj44 t101 (rdOf ByteArray.empty x9_7 x11_2)).bind fun t158 => ((abatisref14_Same.f kj44 t154 t158).bind fun t161 => (if t161 = true then ((abatisref14_Same.f kj44 t101 y115).bind fun t162 => (if t162 = true then (abatislaw14_HeadHeaders.l0 kj44 t101 t104 x9_7 y115 (wrap64 (x11_2 + 1))) else (none))) else (none))))) else (none)))) else (none))))) else (none)) else (none)) = some r := by rw [if_neg (show ¬ (false = true) by decide)] at H; exact H
              clear H
              have H := H1
              clear H1
              by_cases c51 : 0 ≤ x11_2
              ·rw [if_pos c51] at H
               have c51b0 : decide (0 ≤ x11_2) = true := decide_eq_true c51
               clear c51
               by_cases c52 : x11_2 < (x9_7.length : Int)
               ·rw [if_pos c52] at H
                have c52b0 : decide (x11_2 < (x9_7.length : Int)) = true := decide_eq_true c52
                clear c52
                replace H := Option.bind_eq_some_iff.mp H
                obtain ⟨t140, A530, H⟩ := H
                replace H : ((abatisref14_List.f kj44 t101 (rdOf ByteArray.empty x9_7 x11_2)).bind fun t144 => ((abatisref01_Same.f kj44 t140 t144).bind fun t147 => (if t147 = true then ((abatisref14_Set.f kj44 t101 (rdOf ByteArray.empty x9_7 x11_2) t104).bind fun t149 => ((abatisref14_Same.f kj44 t127 t149).bind fun t152 => (if t152 = true then ((head_Drop.f t101 (rdOf ByteArray.empty x9_7 x11_2)).bind fun t154 => ((abatisref14_Drop.f kj44 t101 (rdOf ByteArray.empty x9_7 x11_2)).bind fun t158 => ((abatisref14_Same.f kj44 t154 t158).bind fun t161 => (if t161 = true then ((abatisref14_Same.f kj44 t101 y115).bind fun t162 => (if t162 = true then (abatislaw14_HeadHeaders.l0 kj44 t101 t104 x9_7 y115 (wrap64 (x11_2 + 1))) else (none))) else (none))))) else (none)))) else (none)))) = some r := H
                have A53 := Aside0.mk A530
                clear A530
                replace H := Option.bind_eq_some_iff.mp H
                obtain ⟨t144, A540, H⟩ := H
                replace H : ((abatisref01_Same.f kj44 t140 t144).bind fun t147 => (if t147 = true then ((abatisref14_Set.f kj44 t101 (rdOf ByteArray.empty x9_7 x11_2) t104).bind fun t149 => ((abatisref14_Same.f kj44 t127 t149).bind fun t152 => (if t152 = true then ((head_Drop.f t101 (rdOf ByteArray.empty x9_7 x11_2)).bind fun t154 => ((abatisref14_Drop.f kj44 t101 (rdOf ByteArray.empty x9_7 x11_2)).bind fun t158 => ((abatisref14_Same.f kj44 t154 t158).bind fun t161 => (if t161 = true then ((abatisref14_Same.f kj44 t101 y115).bind fun t162 => (if t162 = true then (abatislaw14_HeadHeaders.l0 kj44 t101 t104 x9_7 y115 (wrap64 (x11_2 + 1))) else (none))) else (none))))) else (none)))) else (none))) = some r := H
                have A54 := Aside0.mk A540
                clear A540
                replace H := Option.bind_eq_some_iff.mp H
                obtain ⟨t147, A550, H⟩ := H
                replace H : (if t147 = true then ((abatisref14_Set.f kj44 t101 (rdOf ByteArray.empty x9_7 x11_2) t104).bind fun t149 => ((abatisref14_Same.f kj44 t127 t149).bind fun t152 => (if t152 = true then ((head_Drop.f t101 (rdOf ByteArray.empty x9_7 x11_2)).bind fun t154 => ((abatisref14_Drop.f kj44 t101 (rdOf ByteArray.empty x9_7 x11_2)).bind fun t158 => ((abatisref14_Same.f kj44 t154 t158).bind fun t161 => (if t161 = true then ((abatisref14_Same.f kj44 t101 y115).bind fun t162 => (if t162 = true then (abatislaw14_HeadHeaders.l0 kj44 t101 t104 x9_7 y115 (wrap64 (x11_2 + 1))) else (none))) else (none))))) else (none)))) else (none)) = some r := H
                have A55 := Aside0.mk A550
                clear A550
                by_cases c56 : t147 = true
                ·subst c56
                 have H1 : ((abatisref14_Set.f kj44 t101 (rdOf ByteArray.empty x9_7 x11_2) t104).bind fun t149 => ((abatisref14_Same.f kj44 t127 t149).bind fun t152 => (if t152 = true then ((head_Drop.f t101 (rdOf ByteArray.empty x9_7 x11_2)).bind fun t154 => ((abatisref14_Drop.f kj44 t101 (rdOf ByteArray.empty x9_7 x11_2)).bind fun t158 => ((abatisref14_Same.f kj44 t154 t158).bind fun t161 => (if t161 = true then ((abatisref14_Same.f kj44 t101 y115).bind fun t162 => (if t162 = true then (abatislaw14_HeadHeaders.l0 kj44 t101 t104 x9_7 y115 (wrap64 (x11_2 + 1))) else (none))) else (none))))) else (none)))) = some r := by rw [if_pos rfl] at H; exact H
                 clear H
                 have H := H1
                 clear H1
                 replace H := Option.bind_eq_some_iff.mp H
                 obtain ⟨t149, A570, H⟩ := H
                 replace H : ((abatisref14_Same.f kj44 t127 t149).bind fun t152 => (if t152 = true then ((head_Drop.f t101 (rdOf ByteArray.empty x9_7 x11_2)).bind fun t154 => ((abatisref14_Drop.f kj44 t101 (rdOf ByteArray.empty x9_7 x11_2)).bind fun t158 => ((abatisref14_Same.f kj44 t154 t158).bind fun t161 => (if t161 = true then ((abatisref14_Same.f kj44 t101 y115).bind fun t162 => (if t162 = true then (abatislaw14_HeadHeaders.l0 kj44 t101 t104 x9_7 y115 (wrap64 (x11_2 + 1))) else (none))) else (none))))) else (none))) = some r := H
                 have A57 := Aside0.mk A570
                 clear A570
                 replace H := Option.bind_eq_some_iff.mp H
                 obtain ⟨t152, A580, H⟩ := H
                 replace H : (if t152 = true then ((head_Drop.f t101 (rdOf ByteArray.empty x9_7 x11_2)).bind fun t154 => ((abatisref14_Drop.f kj44 t101 (rdOf ByteArray.empty x9_7 x11_2)).bind fun t158 => ((abatisref14_Same.f kj44 t154 t158).bind fun t161 => (if t161 = true then ((abatisref14_Same.f kj44 t101 y115).bind fun t162 => (if t162 = true then (abatislaw14_HeadHeaders.l0 kj44 t101 t104 x9_7 y115 (wrap64 (x11_2 + 1))) else (none))) else (none))))) else (none)) = some r := H
                 have A58 := Aside0.mk A580
                 clear A580
                 by_cases c59 : t152 = true
                 ·subst c59
                  have H1 : ((head_Drop.f t101 (rdOf ByteArray.empty x9_7 x11_2)).bind fun t154 => ((abatisref14_Drop.f kj44 t101 (rdOf ByteArray.empty x9_7 x11_2)).bind fun t158 => ((abatisref14_Same.f kj44 t154 t158).bind fun t161 => (if t161 = true then ((abatisref14_Same.f kj44 t101 y115).bind fun t162 => (if t162 = true then (abatislaw14_HeadHeaders.l0 kj44 t101 t104 x9_7 y115 (wrap64 (x11_2 + 1))) else (none))) else (none))))) = some r := by rw [if_pos rfl] at H; exact H
                  clear H
                  have H := H1
                  clear H1
                  replace H := Option.bind_eq_some_iff.mp H
                  obtain ⟨t154, A600, H⟩ := H
                  replace H : ((abatisref14_Drop.f kj44 t101 (rdOf ByteArray.empty x9_7 x11_2)).bind fun t158 => ((abatisref14_Same.f kj44 t154 t158).bind fun t161 => (if t161 = true then ((abatisref14_Same.f kj44 t101 y115).bind fun t162 => (if t162 = true then (abatislaw14_HeadHeaders.l0 kj44 t101 t104 x9_7 y115 (wrap64 (x11_2 + 1))) else (none))) else (none)))) = some r := H
                  have A60 := Aside0.mk A600
                  clear A600
                  replace H := Option.bind_eq_some_iff.mp H
                  obtain ⟨t158, A610, H⟩ := H
                  replace H : ((abatisref14_Same.f kj44 t154 t158).bind fun t161 => (if t161 = true then ((abatisref14_Same.f kj44 t101 y115).bind fun t162 => (if t162 = true then (abatislaw14_HeadHeaders.l0 kj44 t101 t104 x9_7 y115 (wrap64 (x11_2 + 1))) else (none))) else (none))) = some r := H
                  have A61 := Aside0.mk A610
                  clear A610
                  replace H := Option.bind_eq_some_iff.mp H
                  obtain ⟨t161, A620, H⟩ := H
                  replace H : (if t161 = true then ((abatisref14_Same.f kj44 t101 y115).bind fun t162 => (if t162 = true then (abatislaw14_HeadHeaders.l0 kj44 t101 t104 x9_7 y115 (wrap64 (x11_2 + 1))) else (none))) else (none)) = some r := H
                  have A62 := Aside0.mk A620
                  clear A620
                  by_cases c63 : t161 = true
                  ·subst c63
                   have H1 : ((abatisref14_Same.f kj44 t101 y115).bind fun t162 => (if t162 = true then (abatislaw14_HeadHeaders.l0 kj44 t101 t104 x9_7 y115 (wrap64 (x11_2 + 1))) else (none))) = some r := by rw [if_pos rfl] at H; exact H
                   clear H
                   have H := H1
                   clear H1
                   replace H := Option.bind_eq_some_iff.mp H
                   obtain ⟨t162, A640, H⟩ := H
                   replace H : (if t162 = true then (abatislaw14_HeadHeaders.l0 kj44 t101 t104 x9_7 y115 (wrap64 (x11_2 + 1))) else (none)) = some r := H
                   have A64 := Aside0.mk A640
                   clear A640
                   by_cases c65 : t162 = true
                   ·subst c65
                    have H1 : (abatislaw14_HeadHeaders.l0 kj44 t101 t104 x9_7 y115 (wrap64 (x11_2 + 1))) = some r := by rw [if_pos rfl] at H; exact H
                    clear H
                    have H := H1
                    clear H1
                    have H' := Aside0.mk H
                    clear H
                    try go_wp2
                    have n0_ := Aside0.mk (Kd.R_drew HO_0.out)
                    have n1_ := Aside0.mk (Kd.R_drew HO_9.out)
                    have n2_ := Aside0.mk (Kd.R_drew HO_10.out)
                    have n3_ := Aside0.mk (Kd.R_drew HO_15.out)
                    have n4_ := Aside0.mk (below_drew1 HB.out)
                    clear HO_0
                    clear HO_9
                    clear HO_10
                    clear HO_15
                    clear HB
                    have HO_0 := n0_
                    have HO_9 := n1_
                    have HO_10 := n2_
                    have HO_15 := n3_
                    have HB := n4_
                    clear n0_ n1_ n2_ n3_ n4_
                    have p139 : 0 ≤ (x11_2 : Int) := of_decide_eq_true (by first | (with_reducible assumption) | assumption)
                    have q139 : x11_2 < (x9_7.length : Int) := of_decide_eq_true (by first | (with_reducible assumption) | assumption)
                    obtain ⟨ad139, e139, hx139_0⟩ := Kd.at_string (Kd.R_reads' HO_9.out).2.2 x11_2 p139 q139
                    obtain rfl : ad119 = ad139 := (by injection e139)
                    replace p139 := eq_true p139
                    replace q139 := eq_true q139
                    have p143 : 0 ≤ (x11_2 : Int) := of_decide_eq_true (by first | (with_reducible assumption) | assumption)
                    have q143 : x11_2 < (x9_7.length : Int) := of_decide_eq_true (by first | (with_reducible assumption) | assumption)
                    obtain ⟨ad143, e143, hx143_0⟩ := Kd.at_string (Kd.R_reads' HO_9.out).2.2 x11_2 p143 q143
                    obtain rfl : ad119 = ad143 := (by injection e143)
                    replace p143 := eq_true p143
                    replace q143 := eq_true q143
                    have p148 : 0 ≤ (x11_2 : Int) := of_decide_eq_true (by first | (with_reducible assumption) | assumption)
                    have q148 : x11_2 < (x9_7.length : Int) := of_decide_eq_true (by first | (with_reducible assumption) | assumption)
                    obtain ⟨ad148, e148, hx148_0⟩ := Kd.at_string (Kd.R_reads' HO_9.out).2.2 x11_2 p148 q148
                    obtain rfl : ad119 = ad148 := (by injection e148)
                    replace p148 := eq_true p148
                    replace q148 := eq_true q148
                    have p153 : 0 ≤ (x11_2 : Int) := of_decide_eq_true (by first | (with_reducible assumption) | assumption)
                    have q153 : x11_2 < (x9_7.length : Int) := of_decide_eq_true (by first | (with_reducible assumption) | assumption)
                    obtain ⟨ad153, e153, hx153_0⟩ := Kd.at_string (Kd.R_reads' HO_9.out).2.2 x11_2 p153 q153
                    obtain rfl : ad119 = ad153 := (by injection e153)
                    replace p153 := eq_true p153
                    replace q153 := eq_true q153
                    have p157 : 0 ≤ (x11_2 : Int) := of_decide_eq_true (by first | (with_reducible assumption) | assumption)
                    have q157 : x11_2 < (x9_7.length : Int) := of_decide_eq_true (by first | (with_reducible assumption) | assumption)
                    obtain ⟨ad157, e157, hx157_0⟩ := Kd.at_string (Kd.R_reads' HO_9.out).2.2 x11_2 p157 q157
                    obtain rfl : ad119 = ad157 := (by injection e157)
                    replace p157 := eq_true p157
                    replace q157 := eq_true q157
                    refine start_ (n := 48) (S := fun w' => w'.cell? (ad119.add (x11_2).toNat) = some (.string (rdOf ByteArray.empty x9_7 x11_2)) ∧ w'.cell? (ad119.add (x11_2).toNat) = some (.string (rdOf ByteArray.empty x9_7 x11_2)) ∧ w'.cell? (ad119.add (x11_2).toNat) = some (.string (rdOf ByteArray.empty x9_7 x11_2)) ∧ w'.cell? (ad119.add (x11_2).toNat) = some (.string (rdOf ByteArray.empty x9_7 x11_2)) ∧ w'.cell? (ad119.add (x11_2).toNat) = some (.string (rdOf ByteArray.empty x9_7 x11_2))) (ds := []) #[false, false, false, false, false, false, false, false, false, false, false, false, false, false, false, false, false, false, false, false, false, false, false, false, false, false, false, false, false, false, false, false, false, false, false, false, false, false, false, false, false, false, false, false, false, false, false, false] (by kernel_rfl) rfl rfl ⟨hx139_0, hx143_0, hx148_0, hx153_0, hx157_0⟩ (fun hHeld => ?_); refine with_tabW abatislaw14_HeadHeaders.tab19 abatislaw14_HeadHeaders.bits19 (fun HT_ HW_ => ?_)
                    generalize wc.drew = w66 at HO_0 HO_9 HO_10 HO_15 HB hx139_0 hx143_0 hx148_0 hx153_0 hx157_0 hHeld ⊢
                    refine pure_ (i := 0) (N := some 121) (v := ?_) (a' := ?_) #[true, false, false, false, false, false, false, false, false, false, false, false, false, false, false, false, false, false, false, false, false, false, false, false, false, false, false, false, false, false, false, false, false, false, false, false, false, false, false, false, false, false, false, false, false, false, false, false] rfl rfl (any_of HT_.out (by kernel_rfl)) (fun _ _ _ h => h) (Or.inl ⟨by rfl, ?_⟩) ?_ ?_
                    rotate_left
                    ·intro w'
                     go_simp
                     with_reducible rfl
                    rotate_left
                    ·simp only [Act.put, List.setIfInBounds_toArray, List.set_cons_zero, List.set_cons_succ, i64_w, i32_w]
                     rfl
                    refine pure_ (i := 1) (N := some 122) (v := ?_) (a' := ?_) #[true, true, false, false, false, false, false, false, false, false, false, false, false, false, false, false, false, false, false, false, false, false, false, false, false, false, false, false, false, false, false, false, false, false, false, false, false, false, false, false, false, false, false, false, false, false, false, false] rfl rfl (any_of HT_.out (by kernel_rfl)) (fun _ _ _ h => h) (Or.inl ⟨by rfl, ?_⟩) ?_ ?_
                    rotate_left
                    ·intro w'
                     go_simp
                     with_reducible rfl
                    rotate_left
                    ·simp only [Act.put, List.setIfInBounds_toArray, List.set_cons_zero, List.set_cons_succ, i64_w, i32_w]
                     rfl
                    refine pure_ (i := 2) (N := some 123) (v := ?_) (a' := ?_) #[true, true, true, false, false, false, false, false, false, false, false, false, false, false, false, false, false, false, false, false, false, false, false, false, false, false, false, false, false, false, false, false, false, false, false, false, false, false, false, false, false, false, false, false, false, false, false, false] rfl rfl (any_of HT_.out (by kernel_rfl)) (fun _ _ _ h => h) (Or.inl ⟨by rfl, ?_⟩) ?_ ?_
                    rotate_left
                    ·intro w'
                     go_simp
                     with_reducible rfl
                    rotate_left
                    ·simp only [Act.put, List.setIfInBounds_toArray, List.set_cons_zero, List.set_cons_succ, i64_w, i32_w]
                     rfl
                    refine pure_ (i := 3) (N := some 124) (v := ?_) (a' := ?_) #[true, true, true, true, false, false, false, false, false, false, false, false, false, false, false, false, false, false, false, false, false, false, false, false, false, false, false, false, false, false, false, false, false, false, false, false, false, false, false, false, false, false, false, false, false, false, false, false] rfl rfl (any_of HT_.out (by kernel_rfl)) (fun _ _ _ h => h) (Or.inl ⟨by rfl, ?_⟩) ?_ ?_
                    rotate_left
                    ·intro w'
                     go_simp
                     with_reducible rfl
                    rotate_left
                    ·simp only [Act.put, List.setIfInBounds_toArray, List.set_cons_zero, List.set_cons_succ, i64_w, i32_w]
                     rfl
                    refine pure_ (i := 6) (N := some 127) (v := ?_) (a' := ?_) #[true, true, true, true, false, false, true, false, false, false, false, false, false, false, false, false, false, false, false, false, false, false, false, false, false, false, false, false, false, false, false, false, false, false, false, false, false, false, false, false, false, false, false, false, false, false, false, false] rfl rfl (any_of HT_.out (by kernel_rfl)) (fun _ _ _ h => h) (Or.inl ⟨by rfl, ?_⟩) ?_ ?_
                    rotate_left
                    ·intro w'
                     go_simp
                     with_reducible rfl
                    rotate_left
                    ·simp only [Act.put, List.setIfInBounds_toArray, List.set_cons_zero, List.set_cons_succ, i64_w, i32_w]
                     rfl
                    refine pure_ (i := 7) (N := some 128) (v := ?_) (a' := ?_) #[true, true, true, true, false, false, true, true, false, false, false, false, false, false, false, false, false, false, false, false, false, false, false, false, false, false, false, false, false, false, false, false, false, false, false, false, false, false, false, false, false, false, false, false, false, false, false, false] rfl rfl (any_of HT_.out (by kernel_rfl)) (fun _ _ _ h => h) (Or.inl ⟨by rfl, ?_⟩) ?_ ?_
                    rotate_left
                    ·intro w'
                     go_simp
                     with_reducible rfl
                    rotate_left
                    ·simp only [Act.put, List.setIfInBounds_toArray, List.set_cons_zero, List.set_cons_succ, i64_w, i32_w]
                     rfl
                    refine pure_ (i := 8) (N := some 129) (v := ?_) (a' := ?_) #[true, true, true, true, false, false, true, true, true, false, false, false, false, false, false, false, false, false, false, false, false, false, false, false, false, false, false, false, false, false, false, false, false, false, false, false, false, false, false, false, false, false, false, false, false, false, false, false] rfl rfl (any_of HT_.out (by kernel_rfl)) (fun _ _ _ h => h) (Or.inl ⟨by rfl, ?_⟩) ?_ ?_
                    rotate_left
                    ·intro w'
                     go_simp
                     with_reducible rfl
                    rotate_left
                    ·simp only [Act.put, List.setIfInBounds_toArray, List.set_cons_zero, List.set_cons_succ, i64_w, i32_w]
                     rfl
                    refine pure_ (i := 9) (N := some 130) (v := ?_) (a' := ?_) #[true, true, true, true, false, false, true, true, true, true, false, false, false, false, false, false, false, false, false, false, false, false, false, false, false, false, false, false, false, false, false, false, false, false, false, false, false, false, false, false, false, false, false, false, false, false, false, false] rfl rfl (any_of HT_.out (by kernel_rfl)) (fun _ _ _ h => h) (Or.inl ⟨by rfl, ?_⟩) ?_ ?_
                    rotate_left
                    ·intro w'
                     go_simp
                     with_reducible rfl
                    rotate_left
                    ·simp only [Act.put, List.setIfInBounds_toArray, List.set_cons_zero, List.set_cons_succ, i64_w, i32_w]
                     rfl
                    refine take_ (i := 4) (N := some 125) (v := ?_) (a' := ?_) #[true, true, true, true, true, false, true, true, true, true, false, false, false, false, false, false, false, false, false, false, false, false, false, false, false, false, false, false, false, false, false, false, false, false, false, false, false, false, false, false, false, false, false, false, false, false, false, false] rfl rfl (take_ofW HT_.out HW_.out (by kernel_rfl)) (fun _ _ _ h => h) (Or.inl ⟨by rfl, ?_⟩) hHeld ?_ ?_
                    rotate_left
                    ·rintro w' ⟨s0, s1, s2, s3, s4⟩
                     go_simp
                     with_reducible rfl
                    rotate_left
                    ·simp only [Act.put, List.setIfInBounds_toArray, List.set_cons_zero, List.set_cons_succ, i64_w, i32_w]
                     rfl
                    refine take_ (i := 10) (N := some 131) (v := ?_) (a' := ?_) #[true, true, true, true, true, false, true, true, true, true, true, false, false, false, false, false, false, false, false, false, false, false, false, false, false, false, false, false, false, false, false, false, false, false, false, false, false, false, false, false, false, false, false, false, false, false, false, false] rfl rfl (take_ofW HT_.out HW_.out (by kernel_rfl)) (fun _ _ _ h => h) (Or.inl ⟨by rfl, ?_⟩) hHeld ?_ ?_
                    rotate_left
                    ·rintro w' ⟨s0, s1, s2, s3, s4⟩
                     go_simp
                     with_reducible rfl
                    rotate_left
                    ·simp only [Act.put, List.setIfInBounds_toArray, List.set_cons_zero, List.set_cons_succ, i64_w, i32_w]
                     rfl
                    refine one_ (i := 5) (N := some 126) #[true, true, true, true, true, true, true, true, true, true, true, false, false, false, false, false, false, false, false, false, false, false, false, false, false, false, false, false, false, false, false, false, false, false, false, false, false, false, false, false, false, false, false, false, false, false, false, false] rfl rfl (one_of HT_.out (by kernel_rfl)) (by decide) (fun K hK => ?_)
                    refine goes_ Tryd.func9 (by kernel_rfl) rfl #[.slice Ao12 t101.length co12, .string (rdOf ByteArray.empty x9_7 x11_2)] (by rfl) rfl rfl (by (try simp only [List.map_toArray, List.map_cons, List.map_nil]); first | done | rfl | (simp only [List.length_drop, List.length_take]; rfl)) ?_
                    with_reducible refine (head_List.calls kj44 _ _ t101 (rdOf ByteArray.empty x9_7 x11_2) t140 _ ?side1 ?side2 A53.out).mono ?_
                    (case side1 => repeat (first | exact (Kd.R_reads' HO_0.out).2.2 | (with_reducible refine Kd.C_alloc ?_ _) | (with_reducible refine Kd.C_drewN ?_ _) | (with_reducible refine Kd.C_drew ?_)))
                    (case side2 => exact (Kd.R_reads' HO_0.out).2.1)
                    rintro e w67 ⟨v141, rfl, ho0, hb⟩
                    have HS0_ := (hb.cell (World.block_lt_of_cell? _ _ (hHeld.1))).trans (hHeld.1)
                    have HS1_ := (hb.cell (World.block_lt_of_cell? _ _ (hHeld.2.1))).trans (hHeld.2.1)
                    have HS2_ := (hb.cell (World.block_lt_of_cell? _ _ (hHeld.2.2.1))).trans (hHeld.2.2.1)
                    have HS3_ := (hb.cell (World.block_lt_of_cell? _ _ (hHeld.2.2.2.1))).trans (hHeld.2.2.2.1)
                    have HS4_ := (hb.cell (World.block_lt_of_cell? _ _ (hHeld.2.2.2.2))).trans (hHeld.2.2.2.2)
                    refine ⟨_, rfl, ?_⟩
                    have n0_ := Aside0.mk (Kd.R_below (by (with_reducible repeat (first | apply Kd.R_alloc | apply Kd.R_drewN | apply Kd.R_drew)); exact HO_0.out) hb)
                    have n1_ := Aside0.mk (Kd.R_elder' (by (with_reducible repeat (first | apply Kd.R_alloc | apply Kd.R_drewN | apply Kd.R_drew)); exact HO_9.out) (Kd.R_base ho0) hb)
                    have n2_ := Aside0.mk (Kd.R_below (by (with_reducible repeat (first | apply Kd.R_alloc | apply Kd.R_drewN | apply Kd.R_drew)); exact HO_10.out) hb)
                    have n3_ := Aside0.mk (Kd.R_below (by (with_reducible repeat (first | apply Kd.R_alloc | apply Kd.R_drewN | apply Kd.R_drew)); exact HO_15.out) hb)
                    have n4_ := Aside0.mk (Kd.R_lower (Kd.R_new' ho0 (Kd.R_lt (by (with_reducible repeat (first | apply Kd.R_alloc | apply Kd.R_drewN | apply Kd.R_drew)); exact HO_9.out))) (below_size (by repeat (first | (with_reducible first | exact HB.out | apply below_alloc | apply pw_below_drewN | apply below_drew1) | exact HB.out))))
                    have n5_ := Aside0.mk (below_step (by repeat (first | (with_reducible first | exact HB.out | apply below_alloc | apply pw_below_drewN | apply below_drew1) | exact HB.out)) hb)
                    clear HO_0
                    clear HO_9
                    clear HO_10
                    clear HO_15
                    clear HB
                    have HO_0 := n0_
                    have HO_9 := n1_
                    have HO_10 := n2_
                    have HO_15 := n3_
                    have HO142 := n4_
                    have HB := n5_
                    clear n0_ n1_ n2_ n3_ n4_ n5_
                    (try clear hb)
                    (try clear hb2)
                    (try clear hk)
                    (try clear hi)
                    (try clear ho0)
                    refine hK.out _ _ ⟨HS0_, HS1_, HS2_, HS3_, HS4_⟩ (fun hHeld => ?_)
                    clear hK K
                    refine norm_ (a' := ?_) ?_ ?_
                    rotate_left
                    ·show Act.put _ (some 126) _ = _
                     simp only [Act.put, List.setIfInBounds_toArray, List.set_cons_zero, List.set_cons_succ, i64_w, i32_w]
                     rfl
                    refine one_ (i := 11) (N := some 132) #[true, true, true, true, true, true, true, true, true, true, true, true, false, false, false, false, false, false, false, false, false, false, false, false, false, false, false, false, false, false, false, false, false, false, false, false, false, false, false, false, false, false, false, false, false, false, false, false] rfl rfl (one_of HT_.out (by kernel_rfl)) (by decide) (fun K hK => ?_)
                    refine goes_ Tryd.func28 (by kernel_rfl) rfl #[.slice Ao12 t101.length co12, .string (rdOf ByteArray.empty x9_7 x11_2)] (by rfl) rfl rfl (by (try simp only [List.map_toArray, List.map_cons, List.map_nil]); first | done | rfl | (simp only [List.length_drop, List.length_take]; rfl)) ?_
                    with_reducible refine (abatisref14_List.calls kj44 _ _ t101 (rdOf ByteArray.empty x9_7 x11_2) t144 _ ?side1 ?side2 A54.out).mono ?_
                    (case side1 => repeat (first | exact (Kd.R_reads' HO_0.out).2.2 | (with_reducible refine Kd.C_alloc ?_ _) | (with_reducible refine Kd.C_drewN ?_ _) | (with_reducible refine Kd.C_drew ?_)))
                    (case side2 => exact (Kd.R_reads' HO_0.out).2.1)
                    rintro e w68 ⟨v145, rfl, ho0, hb⟩
                    have HS0_ := (hb.cell (World.block_lt_of_cell? _ _ (hHeld.1))).trans (hHeld.1)
                    have HS1_ := (hb.cell (World.block_lt_of_cell? _ _ (hHeld.2.1))).trans (hHeld.2.1)
                    have HS2_ := (hb.cell (World.block_lt_of_cell? _ _ (hHeld.2.2.1))).trans (hHeld.2.2.1)
                    have HS3_ := (hb.cell (World.block_lt_of_cell? _ _ (hHeld.2.2.2.1))).trans (hHeld.2.2.2.1)
                    have HS4_ := (hb.cell (World.block_lt_of_cell? _ _ (hHeld.2.2.2.2))).trans (hHeld.2.2.2.2)
                    refine ⟨_, rfl, ?_⟩
                    have n0_ := Aside0.mk (Kd.R_below (by (with_reducible repeat (first | apply Kd.R_alloc | apply Kd.R_drewN | apply Kd.R_drew)); exact HO_0.out) hb)
                    have n1_ := Aside0.mk (Kd.R_elder' (by (with_reducible repeat (first | apply Kd.R_alloc | apply Kd.R_drewN | apply Kd.R_drew)); exact HO_9.out) (Kd.R_base ho0) hb)
                    have n2_ := Aside0.mk (Kd.R_below (by (with_reducible repeat (first | apply Kd.R_alloc | apply Kd.R_drewN | apply Kd.R_drew)); exact HO_10.out) hb)
                    have n3_ := Aside0.mk (Kd.R_below (by (with_reducible repeat (first | apply Kd.R_alloc | apply Kd.R_drewN | apply Kd.R_drew)); exact HO_15.out) hb)
                    have n4_ := Aside0.mk (Kd.R_elder' (by (with_reducible repeat (first | apply Kd.R_alloc | apply Kd.R_drewN | apply Kd.R_drew)); exact HO142.out) (Kd.R_base ho0) hb)
                    have n5_ := Aside0.mk (Kd.R_lower (Kd.R_new' (Kd.R_new' ho0 (Kd.R_lt (by (with_reducible repeat (first | apply Kd.R_alloc | apply Kd.R_drewN | apply Kd.R_drew)); exact HO_9.out))) (Kd.R_lt (by (with_reducible repeat (first | apply Kd.R_alloc | apply Kd.R_drewN | apply Kd.R_drew)); exact HO142.out))) (below_size (by repeat (first | (with_reducible first | exact HB.out | apply below_alloc | apply pw_below_drewN | apply below_drew1) | exact HB.out))))
                    have n6_ := Aside0.mk (below_step (by repeat (first | (with_reducible first | exact HB.out | apply below_alloc | apply pw_below_drewN | apply below_drew1) | exact HB.out)) hb)
                    clear HO_0
                    clear HO_9
                    clear HO_10
                    clear HO_15
                    clear HO142
                    clear HB
                    have HO_0 := n0_
                    have HO_9 := n1_
                    have HO_10 := n2_
                    have HO_15 := n3_
                    have HO142 := n4_
                    have HO146 := n5_
                    have HB := n6_
                    clear n0_ n1_ n2_ n3_ n4_ n5_ n6_
                    (try clear hb)
                    (try clear hb2)
                    (try clear hk)
                    (try clear hi)
                    (try clear ho0)
                    obtain ⟨Ao69, co69, eo69⟩ := Kd.R_slice HO142.out
                    (first | subst eo69 | (injection eo69 with f1_ f2_ f3_; have f4_ := f1_.symm; have f5_ := f3_.symm; clear f1_ f2_ f3_; subst f4_; subst f5_))
                    obtain ⟨Ao70, co70, eo70⟩ := Kd.R_slice HO146.out
                    (first | subst eo70 | (injection eo70 with f1_ f2_ f3_; have f4_ := f1_.symm; have f5_ := f3_.symm; clear f1_ f2_ f3_; subst f4_; subst f5_))
                    refine hK.out _ _ ⟨HS0_, HS1_, HS2_, HS3_, HS4_⟩ (fun hHeld => ?_)
                    clear hK K
                    refine norm_ (a' := ?_) ?_ ?_
                    rotate_left
                    ·show Act.put _ (some 132) _ = _
                     simp only [Act.put, List.setIfInBounds_toArray, List.set_cons_zero, List.set_cons_succ, i64_w, i32_w]
                     rfl
                    refine one_ (i := 12) (N := some 133) #[true, true, true, true, true, true, true, true, true, true, true, true, true, false, false, false, false, false, false, false, false, false, false, false, false, false, false, false, false, false, false, false, false, false, false, false, false, false, false, false, false, false, false, false, false, false, false, false] rfl rfl (one_of HT_.out (by kernel_rfl)) (by decide) (fun K hK => ?_)
                    refine goes_ Tryd.func12 (by kernel_rfl) rfl #[.slice Ao69 t140.length co69, .slice Ao70 t144.length co70] (by rfl) rfl rfl (by (try simp only [List.map_toArray, List.map_cons, List.map_nil]); first | done | rfl | (simp only [List.length_drop, List.length_take]; rfl)) ?_
                    with_reducible refine (abatisref01_Same.calls kj44 _ _ t140 _ _ t144 true _ ?side1 ?side2 ?side3 ?side4 A55.out).mono ?_
                    (case side1 => repeat (first | exact (Kd.R_reads' HO142.out).2.2 | (with_reducible refine Kd.C_alloc ?_ _) | (with_reducible refine Kd.C_drewN ?_ _) | (with_reducible refine Kd.C_drew ?_)))
                    (case side2 => exact (Kd.R_reads' HO142.out).2.1)
                    (case side3 => repeat (first | exact (Kd.R_reads' HO146.out).2.2 | (with_reducible refine Kd.C_alloc ?_ _) | (with_reducible refine Kd.C_drewN ?_ _) | (with_reducible refine Kd.C_drew ?_)))
                    (case side4 => exact (Kd.R_reads' HO146.out).2.1)
                    rintro e w' ⟨rfl, ⟨nd, rfl⟩⟩
                    refine ⟨_, rfl, ?_⟩
                    refine hK.out _ _ ⟨hHeld.1, hHeld.2.1, hHeld.2.2.1, hHeld.2.2.2.1, hHeld.2.2.2.2⟩ (fun hHeld => ?_)
                    clear hK K
                    refine norm_ (a' := ?_) ?_ ?_
                    rotate_left
                    ·show Act.put _ (some 133) _ = _
                     simp only [Act.put, List.setIfInBounds_toArray, List.set_cons_zero, List.set_cons_succ, i64_w, i32_w]
                     rfl
                    refine pure_ (i := 13) (N := some 134) (v := ?_) (a' := ?_) #[true, true, true, true, true, true, true, true, true, true, true, true, true, true, false, false, false, false, false, false, false, false, false, false, false, false, false, false, false, false, false, false, false, false, false, false, false, false, false, false, false, false, false, false, false, false, false, false] rfl rfl (any_of HT_.out (by kernel_rfl)) (fun _ _ _ h => h) (Or.inl ⟨by rfl, ?_⟩) ?_ ?_
                    rotate_left
                    ·intro w'
                     go_simp
                     with_reducible rfl
                    rotate_left
                    ·simp only [Act.put, List.setIfInBounds_toArray, List.set_cons_zero, List.set_cons_succ, i64_w, i32_w]
                     rfl
                    refine pure_ (i := 14) (N := some 135) (v := ?_) (a' := ?_) #[true, true, true, true, true, true, true, true, true, true, true, true, true, true, true, false, false, false, false, false, false, false, false, false, false, false, false, false, false, false, false, false, false, false, false, false, false, false, false, false, false, false, false, false, false, false, false, false] rfl rfl (any_of HT_.out (by kernel_rfl)) (fun _ _ _ h => h) (Or.inl ⟨by rfl, ?_⟩) ?_ ?_
                    rotate_left
                    ·intro w'
                     go_simp
                     with_reducible rfl
                    rotate_left
                    ·simp only [Act.put, List.setIfInBounds_toArray, List.set_cons_zero, List.set_cons_succ, i64_w, i32_w]
                     rfl
                    refine pure_ (i := 15) (N := some 136) (v := ?_) (a' := ?_) #[true, true, true, true, true, true, true, true, true, true, true, true, true, true, true, true, false, false, false, false, false, false, false, false, false, false, false, false, false, false, false, false, false, false, false, false, false, false, false, false, false, false, false, false, false, false, false, false] rfl rfl (any_of HT_.out (by kernel_rfl)) (fun _ _ _ h => h) (Or.inl ⟨by rfl, ?_⟩) ?_ ?_
                    rotate_left
                    ·intro w'
                     go_simp
                     with_reducible rfl
                    rotate_left
                    ·simp only [Act.put, List.setIfInBounds_toArray, List.set_cons_zero, List.set_cons_succ, i64_w, i32_w]
                     rfl
                    refine pure_ (i := 16) (N := some 137) (v := ?_) (a' := ?_) #[true, true, true, true, true, true, true, true, true, true, true, true, true, true, true, true, true, false, false, false, false, false, false, false, false, false, false, false, false, false, false, false, false, false, false, false, false, false, false, false, false, false, false, false, false, false, false, false] rfl rfl (any_of HT_.out (by kernel_rfl)) (fun _ _ _ h => h) (Or.inl ⟨by rfl, ?_⟩) ?_ ?_
                    rotate_left
                    ·intro w'
                     go_simp
                     with_reducible rfl
                    rotate_left
                    ·simp only [Act.put, List.setIfInBounds_toArray, List.set_cons_zero, List.set_cons_succ, i64_w, i32_w]
                     rfl
                    refine pure_ (i := 17) (N := some 138) (v := ?_) (a' := ?_) #[true, true, true, true, true, true, true, true, true, true, true, true, true, true, true, true, true, true, false, false, false, false, false, false, false, false, false, false, false, false, false, false, false, false, false, false, false, false, false, false, false, false, false, false, false, false, false, false] rfl rfl (any_of HT_.out (by kernel_rfl)) (fun _ _ _ h => h) (Or.inl ⟨by rfl, ?_⟩) ?_ ?_
                    rotate_left
                    ·intro w'
                     go_simp
                     with_reducible rfl
                    rotate_left
                    ·simp only [Act.put, List.setIfInBounds_toArray, List.set_cons_zero, List.set_cons_succ, i64_w, i32_w]
                     rfl
                    refine pure_ (i := 18) (N := some 139) (v := ?_) (a' := ?_) #[true, true, true, true, true, true, true, true, true, true, true, true, true, true, true, true, true, true, true, false, false, false, false, false, false, false, false, false, false, false, false, false, false, false, false, false, false, false, false, false, false, false, false, false, false, false, false, false] rfl rfl (any_of HT_.out (by kernel_rfl)) (fun _ _ _ h => h) (Or.inl ⟨by rfl, ?_⟩) ?_ ?_
                    rotate_left
                    ·intro w'
                     go_simp
                     with_reducible rfl
                    rotate_left
                    ·simp only [Act.put, List.setIfInBounds_toArray, List.set_cons_zero, List.set_cons_succ, i64_w, i32_w]
                     rfl
                    refine pure_ (i := 19) (N := some 140) (v := ?_) (a' := ?_) #[true, true, true, true, true, true, true, true, true, true, true, true, true, true, true, true, true, true, true, true, false, false, false, false, false, false, false, false, false, false, false, false, false, false, false, false, false, false, false, false, false, false, false, false, false, false, false, false] rfl rfl (any_of HT_.out (by kernel_rfl)) (fun _ _ _ h => h) (Or.inl ⟨by rfl, ?_⟩) ?_ ?_
                    rotate_left
                    ·intro w'
                     go_simp
                     with_reducible rfl
                    rotate_left
                    ·simp only [Act.put, List.setIfInBounds_toArray, List.set_cons_zero, List.set_cons_succ, i64_w, i32_w]
                     rfl
                    refine pure_ (i := 21) (N := some 142) (v := ?_) (a' := ?_) #[true, true, true, true, true, true, true, true, true, true, true, true, true, true, true, true, true, true, true, true, false, true, false, false, false, false, false, false, false, false, false, false, false, false, false, false, false, false, false, false, false, false, false, false, false, false, false, false] rfl rfl (any_of HT_.out (by kernel_rfl)) (fun _ _ _ h => h) (Or.inl ⟨by rfl, ?_⟩) ?_ ?_
                    rotate_left
                    ·intro w'
                     go_simp
                     with_reducible rfl
                    rotate_left
                    ·simp only [Act.put, List.setIfInBounds_toArray, List.set_cons_zero, List.set_cons_succ, i64_w, i32_w]
                     rfl
                    refine take_ (i := 20) (N := some 141) (v := ?_) (a' := ?_) #[true, true, true, true, true, true, true, true, true, true, true, true, true, true, true, true, true, true, true, true, true, true, false, false, false, false, false, false, false, false, false, false, false, false, false, false, false, false, false, false, false, false, false, false, false, false, false, false] rfl rfl (take_ofW HT_.out HW_.out (by kernel_rfl)) (fun _ _ _ h => h) (Or.inl ⟨by rfl, ?_⟩) hHeld ?_ ?_
                    rotate_left
                    ·rintro w' ⟨s0, s1, s2, s3, s4⟩
                     go_simp
                     with_reducible rfl
                    rotate_left
                    ·simp only [Act.put, List.setIfInBounds_toArray, List.set_cons_zero, List.set_cons_succ, i64_w, i32_w]
                     rfl
                    refine one_ (i := 22) (N := some 143) #[true, true, true, true, true, true, true, true, true, true, true, true, true, true, true, true, true, true, true, true, true, true, true, false, false, false, false, false, false, false, false, false, false, false, false, false, false, false, false, false, false, false, false, false, false, false, false, false] rfl rfl (one_of HT_.out (by kernel_rfl)) (by decide) (fun K hK => ?_)
                    refine goes_ Tryd.func29 (by kernel_rfl) rfl #[.slice Ao12 t101.length co12, .string (rdOf ByteArray.empty x9_7 x11_2), .string t104] (by rfl) rfl rfl (by (try simp only [List.map_toArray, List.map_cons, List.map_nil]); first | done | rfl | (simp only [List.length_drop, List.length_take]; rfl)) ?_
                    with_reducible refine (abatisref14_Set.calls kj44 _ _ t101 (rdOf ByteArray.empty x9_7 x11_2) t104 t149 _ ?side1 ?side2 A57.out).mono ?_
                    (case side1 => repeat (first | exact (Kd.R_reads' HO_0.out).2.2 | (with_reducible refine Kd.C_alloc ?_ _) | (with_reducible refine Kd.C_drewN ?_ _) | (with_reducible refine Kd.C_drew ?_)))
                    (case side2 => exact (Kd.R_reads' HO_0.out).2.1)
                    rintro e w71 ⟨v150, rfl, ho0, hb⟩
                    have HS0_ := (hb.cell (World.block_lt_of_cell? _ _ (hHeld.1))).trans (hHeld.1)
                    have HS1_ := (hb.cell (World.block_lt_of_cell? _ _ (hHeld.2.1))).trans (hHeld.2.1)
                    have HS2_ := (hb.cell (World.block_lt_of_cell? _ _ (hHeld.2.2.1))).trans (hHeld.2.2.1)
                    have HS3_ := (hb.cell (World.block_lt_of_cell? _ _ (hHeld.2.2.2.1))).trans (hHeld.2.2.2.1)
                    have HS4_ := (hb.cell (World.block_lt_of_cell? _ _ (hHeld.2.2.2.2))).trans (hHeld.2.2.2.2)
                    refine ⟨_, rfl, ?_⟩
                    have n0_ := Aside0.mk (Kd.R_elder' (by (with_reducible repeat (first | apply Kd.R_alloc | apply Kd.R_drewN | apply Kd.R_drew)); exact HO_0.out) (Kd.R_base ho0) hb)
                    have n1_ := Aside0.mk (Kd.R_below (by (with_reducible repeat (first | apply Kd.R_alloc | apply Kd.R_drewN | apply Kd.R_drew)); exact HO_9.out) hb)
                    have n2_ := Aside0.mk (Kd.R_elder' (by (with_reducible repeat (first | apply Kd.R_alloc | apply Kd.R_drewN | apply Kd.R_drew)); exact HO_10.out) (Kd.R_base ho0) hb)
                    have n3_ := Aside0.mk (Kd.R_elder' (by (with_reducible repeat (first | apply Kd.R_alloc | apply Kd.R_drewN | apply Kd.R_drew)); exact HO_15.out) (Kd.R_base ho0) hb)
                    have n4_ := Aside0.mk (Kd.R_below (by (with_reducible repeat (first | apply Kd.R_alloc | apply Kd.R_drewN | apply Kd.R_drew)); exact HO142.out) hb)
                    have n5_ := Aside0.mk (Kd.R_below (by (with_reducible repeat (first | apply Kd.R_alloc | apply Kd.R_drewN | apply Kd.R_drew)); exact HO146.out) hb)
                    have n6_ := Aside0.mk (Kd.R_lower (Kd.R_new' (Kd.R_new' (Kd.R_new' ho0 (Kd.R_lt (by (with_reducible repeat (first | apply Kd.R_alloc | apply Kd.R_drewN | apply Kd.R_drew)); exact HO_0.out))) (Kd.R_lt (by (with_reducible repeat (first | apply Kd.R_alloc | apply Kd.R_drewN | apply Kd.R_drew)); exact HO_10.out))) (Kd.R_lt (by (with_reducible repeat (first | apply Kd.R_alloc | apply Kd.R_drewN | apply Kd.R_drew)); exact HO_15.out))) (below_size (by repeat (first | (with_reducible first | exact HB.out | apply below_alloc | apply pw_below_drewN | apply below_drew1) | exact HB.out))))
                    have n7_ := Aside0.mk (below_step (by repeat (first | (with_reducible first | exact HB.out | apply below_alloc | apply pw_below_drewN | apply below_drew1) | exact HB.out)) hb)
                    clear HO_0
                    clear HO_9
                    clear HO_10
                    clear HO_15
                    clear HO142
                    clear HO146
                    clear HB
                    have HO_0 := n0_
                    have HO_9 := n1_
                    have HO_10 := n2_
                    have HO_15 := n3_
                    have HO142 := n4_
                    have HO146 := n5_
                    have HO151 := n6_
                    have HB := n7_
                    clear n0_ n1_ n2_ n3_ n4_ n5_ n6_ n7_
                    (try clear hb)
                    (try clear hb2)
                    (try clear hk)
                    (try clear hi)
                    (try clear ho0)
                    obtain ⟨Ao72, co72, eo72⟩ := Kd.R_slice HO151.out
                    (first | subst eo72 | (injection eo72 with f1_ f2_ f3_; have f4_ := f1_.symm; have f5_ := f3_.symm; clear f1_ f2_ f3_; subst f4_; subst f5_))
                    refine hK.out _ _ ⟨HS0_, HS1_, HS2_, HS3_, HS4_⟩ (fun hHeld => ?_)
                    clear hK K
                    refine norm_ (a' := ?_) ?_ ?_
                    rotate_left
                    ·show Act.put _ (some 143) _ = _
                     simp only [Act.put, List.setIfInBounds_toArray, List.set_cons_zero, List.set_cons_succ, i64_w, i32_w]
                     rfl
                    refine one_ (i := 23) (N := some 144) #[true, true, true, true, true, true, true, true, true, true, true, true, true, true, true, true, true, true, true, true, true, true, true, true, false, false, false, false, false, false, false, false, false, false, false, false, false, false, false, false, false, false, false, false, false, false, false, false] rfl rfl (one_of HT_.out (by kernel_rfl)) (by decide) (fun K hK => ?_)
                    refine goes_ Tryd.func23 (by kernel_rfl) rfl #[.slice Ao34 t127.length co34, .slice Ao72 t149.length co72] (by rfl) rfl rfl (by (try simp only [List.map_toArray, List.map_cons, List.map_nil]); first | done | rfl | (simp only [List.length_drop, List.length_take]; rfl)) ?_
                    with_reducible refine (abatisref14_Same.calls kj44 _ _ t127 _ _ t149 true _ ?side1 ?side2 ?side3 ?side4 A58.out).mono ?_
                    (case side1 => repeat (first | exact (Kd.R_reads' HO_15.out).2.2 | (with_reducible refine Kd.C_alloc ?_ _) | (with_reducible refine Kd.C_drewN ?_ _) | (with_reducible refine Kd.C_drew ?_)))
                    (case side2 => exact (Kd.R_reads' HO_15.out).2.1)
                    (case side3 => repeat (first | exact (Kd.R_reads' HO151.out).2.2 | (with_reducible refine Kd.C_alloc ?_ _) | (with_reducible refine Kd.C_drewN ?_ _) | (with_reducible refine Kd.C_drew ?_)))
                    (case side4 => exact (Kd.R_reads' HO151.out).2.1)
                    rintro e w' ⟨rfl, ⟨nd, rfl⟩⟩
                    refine ⟨_, rfl, ?_⟩
                    refine hK.out _ _ ⟨hHeld.1, hHeld.2.1, hHeld.2.2.1, hHeld.2.2.2.1, hHeld.2.2.2.2⟩ (fun hHeld => ?_)
                    clear hK K
                    refine norm_ (a' := ?_) ?_ ?_
                    rotate_left
                    ·show Act.put _ (some 144) _ = _
                     simp only [Act.put, List.setIfInBounds_toArray, List.set_cons_zero, List.set_cons_succ, i64_w, i32_w]
                     rfl
                    refine pure_ (i := 24) (N := some 145) (v := ?_) (a' := ?_) #[true, true, true, true, true, true, true, true, true, true, true, true, true, true, true, true, true, true, true, true, true, true, true, true, true, false, false, false, false, false, false, false, false, false, false, false, false, false, false, false, false, false, false, false, false, false, false, false] rfl rfl (any_of HT_.out (by kernel_rfl)) (fun _ _ _ h => h) (Or.inl ⟨by rfl, ?_⟩) ?_ ?_
                    rotate_left
                    ·intro w'
                     go_simp
                     with_reducible rfl
                    rotate_left
                    ·simp only [Act.put, List.setIfInBounds_toArray, List.set_cons_zero, List.set_cons_succ, i64_w, i32_w]
                     rfl
                    refine pure_ (i := 25) (N := some 146) (v := ?_) (a' := ?_) #[true, true, true, true, true, true, true, true, true, true, true, true, true, true, true, true, true, true, true, true, true, true, true, true, true, true, false, false, false, false, false, false, false, false, false, false, false, false, false, false, false, false, false, false, false, false, false, false] rfl rfl (any_of HT_.out (by kernel_rfl)) (fun _ _ _ h => h) (Or.inl ⟨by rfl, ?_⟩) ?_ ?_
                    rotate_left
                    ·intro w'
                     go_simp
                     with_reducible rfl
                    rotate_left
                    ·simp only [Act.put, List.setIfInBounds_toArray, List.set_cons_zero, List.set_cons_succ, i64_w, i32_w]
                     rfl
                    refine pure_ (i := 26) (N := some 147) (v := ?_) (a' := ?_) #[true, true, true, true, true, true, true, true, true, true, true, true, true, true, true, true, true, true, true, true, true, true, true, true, true, true, true, false, false, false, false, false, false, false, false, false, false, false, false, false, false, false, false, false, false, false, false, false] rfl rfl (any_of HT_.out (by kernel_rfl)) (fun _ _ _ h => h) (Or.inl ⟨by rfl, ?_⟩) ?_ ?_
                    rotate_left
                    ·intro w'
                     go_simp
                     with_reducible rfl
                    rotate_left
                    ·simp only [Act.put, List.setIfInBounds_toArray, List.set_cons_zero, List.set_cons_succ, i64_w, i32_w]
                     rfl
                    refine pure_ (i := 27) (N := some 148) (v := ?_) (a' := ?_) #[true, true, true, true, true, true, true, true, true, true, true, true, true, true, true, true, true, true, true, true, true, true, true, true, true, true, true, true, false, false, false, false, false, false, false, false, false, false, false, false, false, false, false, false, false, false, false, false] rfl rfl (any_of HT_.out (by kernel_rfl)) (fun _ _ _ h => h) (Or.inl ⟨by rfl, ?_⟩) ?_ ?_
                    rotate_left
                    ·intro w'
                     go_simp
                     with_reducible rfl
                    rotate_left
                    ·simp only [Act.put, List.setIfInBounds_toArray, List.set_cons_zero, List.set_cons_succ, i64_w, i32_w]
                     rfl
                    refine pure_ (i := 28) (N := some 149) (v := ?_) (a' := ?_) #[true, true, true, true, true, true, true, true, true, true, true, true, true, true, true, true, true, true, true, true, true, true, true, true, true, true, true, true, true, false, false, false, false, false, false, false, false, false, false, false, false, false, false, false, false, false, false, false] rfl rfl (any_of HT_.out (by kernel_rfl)) (fun _ _ _ h => h) (Or.inl ⟨by rfl, ?_⟩) ?_ ?_
                    rotate_left
                    ·intro w'
                     go_simp
                     with_reducible rfl
                    rotate_left
                    ·simp only [Act.put, List.setIfInBounds_toArray, List.set_cons_zero, List.set_cons_succ, i64_w, i32_w]
                     rfl
                    refine pure_ (i := 29) (N := some 150) (v := ?_) (a' := ?_) #[true, true, true, true, true, true, true, true, true, true, true, true, true, true, true, true, true, true, true, true, true, true, true, true, true, true, true, true, true, true, false, false, false, false, false, false, false, false, false, false, false, false, false, false, false, false, false, false] rfl rfl (any_of HT_.out (by kernel_rfl)) (fun _ _ _ h => h) (Or.inl ⟨by rfl, ?_⟩) ?_ ?_
                    rotate_left
                    ·intro w'
                     go_simp
                     with_reducible rfl
                    rotate_left
                    ·simp only [Act.put, List.setIfInBounds_toArray, List.set_cons_zero, List.set_cons_succ, i64_w, i32_w]
                     rfl
                    refine pure_ (i := 30) (N := some 151) (v := ?_) (a' := ?_) #[true, true, true, true, true, true, true, true, true, true, true, true, true, true, true, true, true, true, true, true, true, true, true, true, true, true, true, true, true, true, true, false, false, false, false, false, false, false, false, false, false, false, false, false, false, false, false, false] rfl rfl (any_of HT_.out (by kernel_rfl)) (fun _ _ _ h => h) (Or.inl ⟨by rfl, ?_⟩) ?_ ?_
                    rotate_left
                    ·intro w'
                     go_simp
                     with_reducible rfl
                    rotate_left
                    ·simp only [Act.put, List.setIfInBounds_toArray, List.set_cons_zero, List.set_cons_succ, i64_w, i32_w]
                     rfl
                    refine pure_ (i := 33) (N := some 154) (v := ?_) (a' := ?_) #[true, true, true, true, true, true, true, true, true, true, true, true, true, true, true, true, true, true, true, true, true, true, true, true, true, true, true, true, true, true, true, false, false, true, false, false, false, false, false, false, false, false, false, false, false, false, false, false] rfl rfl (any_of HT_.out (by kernel_rfl)) (fun _ _ _ h => h) (Or.inl ⟨by rfl, ?_⟩) ?_ ?_
                    rotate_left
                    ·intro w'
                     go_simp
                     with_reducible rfl
                    rotate_left
                    ·simp only [Act.put, List.setIfInBounds_toArray, List.set_cons_zero, List.set_cons_succ, i64_w, i32_w]
                     rfl
                    refine pure_ (i := 34) (N := some 155) (v := ?_) (a' := ?_) #[true, true, true, true, true, true, true, true, true, true, true, true, true, true, true, true, true, true, true, true, true, true, true, true, true, true, true, true, true, true, true, false, false, true, true, false, false, false, false, false, false, false, false, false, false, false, false, false] rfl rfl (any_of HT_.out (by kernel_rfl)) (fun _ _ _ h => h) (Or.inl ⟨by rfl, ?_⟩) ?_ ?_
                    rotate_left
                    ·intro w'
                     go_simp
                     with_reducible rfl
                    rotate_left
                    ·simp only [Act.put, List.setIfInBounds_toArray, List.set_cons_zero, List.set_cons_succ, i64_w, i32_w]
                     rfl
                    refine pure_ (i := 35) (N := some 156) (v := ?_) (a' := ?_) #[true, true, true, true, true, true, true, true, true, true, true, true, true, true, true, true, true, true, true, true, true, true, true, true, true, true, true, true, true, true, true, false, false, true, true, true, false, false, false, false, false, false, false, false, false, false, false, false] rfl rfl (any_of HT_.out (by kernel_rfl)) (fun _ _ _ h => h) (Or.inl ⟨by rfl, ?_⟩) ?_ ?_
                    rotate_left
                    ·intro w'
                     go_simp
                     with_reducible rfl
                    rotate_left
                    ·simp only [Act.put, List.setIfInBounds_toArray, List.set_cons_zero, List.set_cons_succ, i64_w, i32_w]
                     rfl
                    refine pure_ (i := 36) (N := some 157) (v := ?_) (a' := ?_) #[true, true, true, true, true, true, true, true, true, true, true, true, true, true, true, true, true, true, true, true, true, true, true, true, true, true, true, true, true, true, true, false, false, true, true, true, true, false, false, false, false, false, false, false, false, false, false, false] rfl rfl (any_of HT_.out (by kernel_rfl)) (fun _ _ _ h => h) (Or.inl ⟨by rfl, ?_⟩) ?_ ?_
                    rotate_left
                    ·intro w'
                     go_simp
                     with_reducible rfl
                    rotate_left
                    ·simp only [Act.put, List.setIfInBounds_toArray, List.set_cons_zero, List.set_cons_succ, i64_w, i32_w]
                     rfl
                    refine take_ (i := 31) (N := some 152) (v := ?_) (a' := ?_) #[true, true, true, true, true, true, true, true, true, true, true, true, true, true, true, true, true, true, true, true, true, true, true, true, true, true, true, true, true, true, true, true, false, true, true, true, true, false, false, false, false, false, false, false, false, false, false, false] rfl rfl (take_ofW HT_.out HW_.out (by kernel_rfl)) (fun _ _ _ h => h) (Or.inl ⟨by rfl, ?_⟩) hHeld ?_ ?_
                    rotate_left
                    ·rintro w' ⟨s0, s1, s2, s3, s4⟩
                     go_simp
                     with_reducible rfl
                    rotate_left
                    ·simp only [Act.put, List.setIfInBounds_toArray, List.set_cons_zero, List.set_cons_succ, i64_w, i32_w]
                     rfl
                    refine take_ (i := 37) (N := some 158) (v := ?_) (a' := ?_) #[true, true, true, true, true, true, true, true, true, true, true, true, true, true, true, true, true, true, true, true, true, true, true, true, true, true, true, true, true, true, true, true, false, true, true, true, true, true, false, false, false, false, false, false, false, false, false, false] rfl rfl (take_ofW HT_.out HW_.out (by kernel_rfl)) (fun _ _ _ h => h) (Or.inl ⟨by rfl, ?_⟩) hHeld ?_ ?_
                    rotate_left
                    ·rintro w' ⟨s0, s1, s2, s3, s4⟩
                     go_simp
                     with_reducible rfl
                    rotate_left
                    ·simp only [Act.put, List.setIfInBounds_toArray, List.set_cons_zero, List.set_cons_succ, i64_w, i32_w]
                     rfl
                    refine one_ (i := 32) (N := some 153) #[true, true, true, true, true, true, true, true, true, true, true, true, true, true, true, true, true, true, true, true, true, true, true, true, true, true, true, true, true, true, true, true, true, true, true, true, true, true, false, false, false, false, false, false, false, false, false, false] rfl rfl (one_of HT_.out (by kernel_rfl)) (by decide) (fun K hK => ?_)
                    refine goes_ Tryd.func20 (by kernel_rfl) rfl #[.slice Ao12 t101.length co12, .string (rdOf ByteArray.empty x9_7 x11_2)] (by rfl) rfl rfl (by (try simp only [List.map_toArray, List.map_cons, List.map_nil]); first | done | rfl | (simp only [List.length_drop, List.length_take]; rfl)) ?_
                    with_reducible refine (head_Drop.calls _ _ t101 (rdOf ByteArray.empty x9_7 x11_2) t154 _ ?side1 ?side2 A60.out).mono ?_
                    (case side1 => repeat (first | exact (Kd.R_reads' HO_0.out).2.2 | (with_reducible refine Kd.C_alloc ?_ _) | (with_reducible refine Kd.C_drewN ?_ _) | (with_reducible refine Kd.C_drew ?_)))
                    (case side2 => exact (Kd.R_reads' HO_0.out).2.1)
                    rintro e w73 ⟨v155, rfl, ho0, hb⟩
                    have HS0_ := (hb.cell (World.block_lt_of_cell? _ _ (hHeld.1))).trans (hHeld.1)
                    have HS1_ := (hb.cell (World.block_lt_of_cell? _ _ (hHeld.2.1))).trans (hHeld.2.1)
                    have HS2_ := (hb.cell (World.block_lt_of_cell? _ _ (hHeld.2.2.1))).trans (hHeld.2.2.1)
                    have HS3_ := (hb.cell (World.block_lt_of_cell? _ _ (hHeld.2.2.2.1))).trans (hHeld.2.2.2.1)
                    have HS4_ := (hb.cell (World.block_lt_of_cell? _ _ (hHeld.2.2.2.2))).trans (hHeld.2.2.2.2)
                    refine ⟨_, rfl, ?_⟩
                    have n0_ := Aside0.mk (Kd.R_elder' (by (with_reducible repeat (first | apply Kd.R_alloc | apply Kd.R_drewN | apply Kd.R_drew)); exact HO_0.out) (Kd.R_base ho0) hb)
                    have n1_ := Aside0.mk (Kd.R_below (by (with_reducible repeat (first | apply Kd.R_alloc | apply Kd.R_drewN | apply Kd.R_drew)); exact HO_9.out) hb)
                    have n2_ := Aside0.mk (Kd.R_elder' (by (with_reducible repeat (first | apply Kd.R_alloc | apply Kd.R_drewN | apply Kd.R_drew)); exact HO_10.out) (Kd.R_base ho0) hb)
                    have n3_ := Aside0.mk (Kd.R_elder' (by (with_reducible repeat (first | apply Kd.R_alloc | apply Kd.R_drewN | apply Kd.R_drew)); exact HO_15.out) (Kd.R_base ho0) hb)
                    have n4_ := Aside0.mk (Kd.R_below (by (with_reducible repeat (first | apply Kd.R_alloc | apply Kd.R_drewN | apply Kd.R_drew)); exact HO142.out) hb)
                    have n5_ := Aside0.mk (Kd.R_below (by (with_reducible repeat (first | apply Kd.R_alloc | apply Kd.R_drewN | apply Kd.R_drew)); exact HO146.out) hb)
                    have n6_ := Aside0.mk (Kd.R_elder' (by (with_reducible repeat (first | apply Kd.R_alloc | apply Kd.R_drewN | apply Kd.R_drew)); exact HO151.out) (Kd.R_base ho0) hb)
                    have n7_ := Aside0.mk (Kd.R_lower (Kd.R_new' (Kd.R_new' (Kd.R_new' (Kd.R_new' ho0 (Kd.R_lt (by (with_reducible repeat (first | apply Kd.R_alloc | apply Kd.R_drewN | apply Kd.R_drew)); exact HO_0.out))) (Kd.R_lt (by (with_reducible repeat (first | apply Kd.R_alloc | apply Kd.R_drewN | apply Kd.R_drew)); exact HO_10.out))) (Kd.R_lt (by (with_reducible repeat (first | apply Kd.R_alloc | apply Kd.R_drewN | apply Kd.R_drew)); exact HO_15.out))) (Kd.R_lt (by (with_reducible repeat (first | apply Kd.R_alloc | apply Kd.R_drewN | apply Kd.R_drew)); exact HO151.out))) (below_size (by repeat (first | (with_reducible first | exact HB.out | apply below_alloc | apply pw_below_drewN | apply below_drew1) | exact HB.out))))
                    have n8_ := Aside0.mk (below_step (by repeat (first | (with_reducible first | exact HB.out | apply below_alloc | apply pw_below_drewN | apply below_drew1) | exact HB.out)) hb)
                    clear HO_0
                    clear HO_9
                    clear HO_10
                    clear HO_15
                    clear HO142
                    clear HO146
                    clear HO151
                    clear HB
                    have HO_0 := n0_
                    have HO_9 := n1_
                    have HO_10 := n2_
                    have HO_15 := n3_
                    have HO142 := n4_
                    have HO146 := n5_
                    have HO151 := n6_
                    have HO156 := n7_
                    have HB := n8_
                    clear n0_ n1_ n2_ n3_ n4_ n5_ n6_ n7_ n8_
                    (try clear hb)
                    (try clear hb2)
                    (try clear hk)
                    (try clear hi)
                    (try clear ho0)
                    refine hK.out _ _ ⟨HS0_, HS1_, HS2_, HS3_, HS4_⟩ (fun hHeld => ?_)
                    clear hK K
                    refine norm_ (a' := ?_) ?_ ?_
                    rotate_left
                    ·show Act.put _ (some 153) _ = _
                     simp only [Act.put, List.setIfInBounds_toArray, List.set_cons_zero, List.set_cons_succ, i64_w, i32_w]
                     rfl
                    refine one_ (i := 38) (N := some 159) #[true, true, true, true, true, true, true, true, true, true, true, true, true, true, true, true, true, true, true, true, true, true, true, true, true, true, true, true, true, true, true, true, true, true, true, true, true, true, true, false, false, false, false, false, false, false, false, false] rfl rfl (one_of HT_.out (by kernel_rfl)) (by decide) (fun K hK => ?_)
                    refine goes_ Tryd.func24 (by kernel_rfl) rfl #[.slice Ao12 t101.length co12, .string (rdOf ByteArray.empty x9_7 x11_2)] (by rfl) rfl rfl (by (try simp only [List.map_toArray, List.map_cons, List.map_nil]); first | done | rfl | (simp only [List.length_drop, List.length_take]; rfl)) ?_
                    with_reducible refine (abatisref14_Drop.calls kj44 _ _ t101 (rdOf ByteArray.empty x9_7 x11_2) t158 _ ?side1 ?side2 A61.out).mono ?_
                    (case side1 => repeat (first | exact (Kd.R_reads' HO_0.out).2.2 | (with_reducible refine Kd.C_alloc ?_ _) | (with_reducible refine Kd.C_drewN ?_ _) | (with_reducible refine Kd.C_drew ?_)))
                    (case side2 => exact (Kd.R_reads' HO_0.out).2.1)
                    rintro e w74 ⟨v159, rfl, ho0, hb⟩
                    have HS0_ := (hb.cell (World.block_lt_of_cell? _ _ (hHeld.1))).trans (hHeld.1)
                    have HS1_ := (hb.cell (World.block_lt_of_cell? _ _ (hHeld.2.1))).trans (hHeld.2.1)
                    have HS2_ := (hb.cell (World.block_lt_of_cell? _ _ (hHeld.2.2.1))).trans (hHeld.2.2.1)
                    have HS3_ := (hb.cell (World.block_lt_of_cell? _ _ (hHeld.2.2.2.1))).trans (hHeld.2.2.2.1)
                    have HS4_ := (hb.cell (World.block_lt_of_cell? _ _ (hHeld.2.2.2.2))).trans (hHeld.2.2.2.2)
                    refine ⟨_, rfl, ?_⟩
                    have n0_ := Aside0.mk (Kd.R_elder' (by (with_reducible repeat (first | apply Kd.R_alloc | apply Kd.R_drewN | apply Kd.R_drew)); exact HO_0.out) (Kd.R_base ho0) hb)
                    have n1_ := Aside0.mk (Kd.R_below (by (with_reducible repeat (first | apply Kd.R_alloc | apply Kd.R_drewN | apply Kd.R_drew)); exact HO_9.out) hb)
                    have n2_ := Aside0.mk (Kd.R_elder' (by (with_reducible repeat (first | apply Kd.R_alloc | apply Kd.R_drewN | apply Kd.R_drew)); exact HO_10.out) (Kd.R_base ho0) hb)
                    have n3_ := Aside0.mk (Kd.R_elder' (by (with_reducible repeat (first | apply Kd.R_alloc | apply Kd.R_drewN | apply Kd.R_drew)); exact HO_15.out) (Kd.R_base ho0) hb)
                    have n4_ := Aside0.mk (Kd.R_below (by (with_reducible repeat (first | apply Kd.R_alloc | apply Kd.R_drewN | apply Kd.R_drew)); exact HO142.out) hb)
                    have n5_ := Aside0.mk (Kd.R_below (by (with_reducible repeat (first | apply Kd.R_alloc | apply Kd.R_drewN | apply Kd.R_drew)); exact HO146.out) hb)
                    have n6_ := Aside0.mk (Kd.R_elder' (by (with_reducible repeat (first | apply Kd.R_alloc | apply Kd.R_drewN | apply Kd.R_drew)); exact HO151.out) (Kd.R_base ho0) hb)
                    have n7_ := Aside0.mk (Kd.R_elder' (by (with_reducible repeat (first | apply Kd.R_alloc | apply Kd.R_drewN | apply Kd.R_drew)); exact HO156.out) (Kd.R_base ho0) hb)
                    have n8_ := Aside0.mk (Kd.R_lower (Kd.R_new' (Kd.R_new' (Kd.R_new' (Kd.R_new' (Kd.R_new' ho0 (Kd.R_lt (by (with_reducible repeat (first | apply Kd.R_alloc | apply Kd.R_drewN | apply Kd.R_drew)); exact HO_0.out))) (Kd.R_lt (by (with_reducible repeat (first | apply Kd.R_alloc | apply Kd.R_drewN | apply Kd.R_drew)); exact HO_10.out))) (Kd.R_lt (by (with_reducible repeat (first | apply Kd.R_alloc | apply Kd.R_drewN | apply Kd.R_drew)); exact HO_15.out))) (Kd.R_lt (by (with_reducible repeat (first | apply Kd.R_alloc | apply Kd.R_drewN | apply Kd.R_drew)); exact HO151.out))) (Kd.R_lt (by (with_reducible repeat (first | apply Kd.R_alloc | apply Kd.R_drewN | apply Kd.R_drew)); exact HO156.out))) (below_size (by repeat (first | (with_reducible first | exact HB.out | apply below_alloc | apply pw_below_drewN | apply below_drew1) | exact HB.out))))
                    have n9_ := Aside0.mk (below_step (by repeat (first | (with_reducible first | exact HB.out | apply below_alloc | apply pw_below_drewN | apply below_drew1) | exact HB.out)) hb)
                    clear HO_0
                    clear HO_9
                    clear HO_10
                    clear HO_15
                    clear HO142
                    clear HO146
                    clear HO151
                    clear HO156
                    clear HB
                    have HO_0 := n0_
                    have HO_9 := n1_
                    have HO_10 := n2_
                    have HO_15 := n3_
                    have HO142 := n4_
                    have HO146 := n5_
                    have HO151 := n6_
                    have HO156 := n7_
                    have HO160 := n8_
                    have HB := n9_
                    clear n0_ n1_ n2_ n3_ n4_ n5_ n6_ n7_ n8_ n9_
                    (try clear hb)
                    (try clear hb2)
                    (try clear hk)
                    (try clear hi)
                    (try clear ho0)
                    obtain ⟨Ao75, co75, eo75⟩ := Kd.R_slice HO156.out
                    (first | subst eo75 | (injection eo75 with f1_ f2_ f3_; have f4_ := f1_.symm; have f5_ := f3_.symm; clear f1_ f2_ f3_; subst f4_; subst f5_))
                    obtain ⟨Ao76, co76, eo76⟩ := Kd.R_slice HO160.out
                    (first | subst eo76 | (injection eo76 with f1_ f2_ f3_; have f4_ := f1_.symm; have f5_ := f3_.symm; clear f1_ f2_ f3_; subst f4_; subst f5_))
                    refine hK.out _ _ ⟨HS0_, HS1_, HS2_, HS3_, HS4_⟩ (fun hHeld => ?_)
                    clear hK K
                    refine norm_ (a' := ?_) ?_ ?_
                    rotate_left
                    ·show Act.put _ (some 159) _ = _
                     simp only [Act.put, List.setIfInBounds_toArray, List.set_cons_zero, List.set_cons_succ, i64_w, i32_w]
                     rfl
                    refine one_ (i := 39) (N := some 160) #[true, true, true, true, true, true, true, true, true, true, true, true, true, true, true, true, true, true, true, true, true, true, true, true, true, true, true, true, true, true, true, true, true, true, true, true, true, true, true, true, false, false, false, false, false, false, false, false] rfl rfl (one_of HT_.out (by kernel_rfl)) (by decide) (fun K hK => ?_)
                    refine goes_ Tryd.func23 (by kernel_rfl) rfl #[.slice Ao75 t154.length co75, .slice Ao76 t158.length co76] (by rfl) rfl rfl (by (try simp only [List.map_toArray, List.map_cons, List.map_nil]); first | done | rfl | (simp only [List.length_drop, List.length_take]; rfl)) ?_
                    with_reducible refine (abatisref14_Same.calls kj44 _ _ t154 _ _ t158 true _ ?side1 ?side2 ?side3 ?side4 A62.out).mono ?_
                    (case side1 => repeat (first | exact (Kd.R_reads' HO156.out).2.2 | (with_reducible refine Kd.C_alloc ?_ _) | (with_reducible refine Kd.C_drewN ?_ _) | (with_reducible refine Kd.C_drew ?_)))
                    (case side2 => exact (Kd.R_reads' HO156.out).2.1)
                    (case side3 => repeat (first | exact (Kd.R_reads' HO160.out).2.2 | (with_reducible refine Kd.C_alloc ?_ _) | (with_reducible refine Kd.C_drewN ?_ _) | (with_reducible refine Kd.C_drew ?_)))
                    (case side4 => exact (Kd.R_reads' HO160.out).2.1)
                    rintro e w' ⟨rfl, ⟨nd, rfl⟩⟩
                    refine ⟨_, rfl, ?_⟩
                    obtain ⟨Ao77, co77, eo77⟩ := Kd.R_slice HO_10.out
                    (first | subst eo77 | (injection eo77 with f1_ f2_ f3_; have f4_ := f1_.symm; have f5_ := f3_.symm; clear f1_ f2_ f3_; subst f4_; subst f5_))
                    refine hK.out _ _ ⟨hHeld.1, hHeld.2.1, hHeld.2.2.1, hHeld.2.2.2.1, hHeld.2.2.2.2⟩ (fun hHeld => ?_)
                    clear hK K
                    refine norm_ (a' := ?_) ?_ ?_
                    rotate_left
                    ·show Act.put _ (some 160) _ = _
                     simp only [Act.put, List.setIfInBounds_toArray, List.set_cons_zero, List.set_cons_succ, i64_w, i32_w]
                     rfl
                    refine pure_ (i := 40) (N := some 161) (v := ?_) (a' := ?_) #[true, true, true, true, true, true, true, true, true, true, true, true, true, true, true, true, true, true, true, true, true, true, true, true, true, true, true, true, true, true, true, true, true, true, true, true, true, true, true, true, true, false, false, false, false, false, false, false] rfl rfl (any_of HT_.out (by kernel_rfl)) (fun _ _ _ h => h) (Or.inl ⟨by rfl, ?_⟩) ?_ ?_
                    rotate_left
                    ·intro w'
                     go_simp
                     with_reducible rfl
                    rotate_left
                    ·simp only [Act.put, List.setIfInBounds_toArray, List.set_cons_zero, List.set_cons_succ, i64_w, i32_w]
                     rfl
                    refine pure_ (i := 41) (N := some 162) (v := ?_) (a' := ?_) #[true, true, true, true, true, true, true, true, true, true, true, true, true, true, true, true, true, true, true, true, true, true, true, true, true, true, true, true, true, true, true, true, true, true, true, true, true, true, true, true, true, true, false, false, false, false, false, false] rfl rfl (any_of HT_.out (by kernel_rfl)) (fun _ _ _ h => h) (Or.inl ⟨by rfl, ?_⟩) ?_ ?_
                    rotate_left
                    ·intro w'
                     go_simp
                     with_reducible rfl
                    rotate_left
                    ·simp only [Act.put, List.setIfInBounds_toArray, List.set_cons_zero, List.set_cons_succ, i64_w, i32_w]
                     rfl
                    refine pure_ (i := 42) (N := some 163) (v := ?_) (a' := ?_) #[true, true, true, true, true, true, true, true, true, true, true, true, true, true, true, true, true, true, true, true, true, true, true, true, true, true, true, true, true, true, true, true, true, true, true, true, true, true, true, true, true, true, true, false, false, false, false, false] rfl rfl (any_of HT_.out (by kernel_rfl)) (fun _ _ _ h => h) (Or.inl ⟨by rfl, ?_⟩) ?_ ?_
                    rotate_left
                    ·intro w'
                     go_simp
                     with_reducible rfl
                    rotate_left
                    ·simp only [Act.put, List.setIfInBounds_toArray, List.set_cons_zero, List.set_cons_succ, i64_w, i32_w]
                     rfl
                    refine pure_ (i := 43) (N := some 164) (v := ?_) (a' := ?_) #[true, true, true, true, true, true, true, true, true, true, true, true, true, true, true, true, true, true, true, true, true, true, true, true, true, true, true, true, true, true, true, true, true, true, true, true, true, true, true, true, true, true, true, true, false, false, false, false] rfl rfl (any_of HT_.out (by kernel_rfl)) (fun _ _ _ h => h) (Or.inl ⟨by rfl, ?_⟩) ?_ ?_
                    rotate_left
                    ·intro w'
                     go_simp
                     with_reducible rfl
                    rotate_left
                    ·simp only [Act.put, List.setIfInBounds_toArray, List.set_cons_zero, List.set_cons_succ, i64_w, i32_w]
                     rfl
                    refine pure_ (i := 44) (N := some 165) (v := ?_) (a' := ?_) #[true, true, true, true, true, true, true, true, true, true, true, true, true, true, true, true, true, true, true, true, true, true, true, true, true, true, true, true, true, true, true, true, true, true, true, true, true, true, true, true, true, true, true, true, true, false, false, false] rfl rfl (any_of HT_.out (by kernel_rfl)) (fun _ _ _ h => h) (Or.inl ⟨by rfl, ?_⟩) ?_ ?_
                    rotate_left
                    ·intro w'
                     go_simp
                     with_reducible rfl
                    rotate_left
                    ·simp only [Act.put, List.setIfInBounds_toArray, List.set_cons_zero, List.set_cons_succ, i64_w, i32_w]
                     rfl
                    refine one_ (i := 45) (N := some 166) #[true, true, true, true, true, true, true, true, true, true, true, true, true, true, true, true, true, true, true, true, true, true, true, true, true, true, true, true, true, true, true, true, true, true, true, true, true, true, true, true, true, true, true, true, true, true, false, false] rfl rfl (one_of HT_.out (by kernel_rfl)) (by decide) (fun K hK => ?_)
                    refine goes_ Tryd.func23 (by kernel_rfl) rfl #[.slice Ao12 t101.length co12, .slice Ao77 y115.length co77] (by rfl) rfl rfl (by (try simp only [List.map_toArray, List.map_cons, List.map_nil]); first | done | rfl | (simp only [List.length_drop, List.length_take]; rfl)) ?_
                    with_reducible refine (abatisref14_Same.calls kj44 _ _ t101 _ _ y115 true _ ?side1 ?side2 ?side3 ?side4 A64.out).mono ?_
                    (case side1 => repeat (first | exact (Kd.R_reads' HO_0.out).2.2 | (with_reducible refine Kd.C_alloc ?_ _) | (with_reducible refine Kd.C_drewN ?_ _) | (with_reducible refine Kd.C_drew ?_)))
                    (case side2 => exact (Kd.R_reads' HO_0.out).2.1)
                    (case side3 => repeat (first | exact (Kd.R_reads' HO_10.out).2.2 | (with_reducible refine Kd.C_alloc ?_ _) | (with_reducible refine Kd.C_drewN ?_ _) | (with_reducible refine Kd.C_drew ?_)))
                    (case side4 => exact (Kd.R_reads' HO_10.out).2.1)
                    rintro e w' ⟨rfl, ⟨nd, rfl⟩⟩
                    refine ⟨_, rfl, ?_⟩
                    refine hK.out _ _ ⟨hHeld.1, hHeld.2.1, hHeld.2.2.1, hHeld.2.2.2.1, hHeld.2.2.2.2⟩ (fun hHeld => ?_)
                    clear hK K
                    refine norm_ (a' := ?_) ?_ ?_
                    rotate_left
                    ·show Act.put _ (some 166) _ = _
                     simp only [Act.put, List.setIfInBounds_toArray, List.set_cons_zero, List.set_cons_succ, i64_w, i32_w]
                     rfl
                    refine pure_ (i := 46) (N := some 167) (v := ?_) (a' := ?_) #[true, true, true, true, true, true, true, true, true, true, true, true, true, true, true, true, true, true, true, true, true, true, true, true, true, true, true, true, true, true, true, true, true, true, true, true, true, true, true, true, true, true, true, true, true, true, true, false] rfl rfl (any_of HT_.out (by kernel_rfl)) (fun _ _ _ h => h) (Or.inl ⟨by rfl, ?_⟩) ?_ ?_
                    rotate_left
                    ·intro w'
                     go_simp
                     with_reducible rfl
                    rotate_left
                    ·simp only [Act.put, List.setIfInBounds_toArray, List.set_cons_zero, List.set_cons_succ, i64_w, i32_w]
                     rfl
                    refine pure_ (i := 47) (N := some 168) (v := ?_) (a' := ?_) #[true, true, true, true, true, true, true, true, true, true, true, true, true, true, true, true, true, true, true, true, true, true, true, true, true, true, true, true, true, true, true, true, true, true, true, true, true, true, true, true, true, true, true, true, true, true, true, true] rfl rfl (any_of HT_.out (by kernel_rfl)) (fun _ _ _ h => h) (Or.inl ⟨by rfl, ?_⟩) ?_ ?_
                    rotate_left
                    ·intro w'
                     go_simp
                     with_reducible rfl
                    rotate_left
                    ·simp only [Act.put, List.setIfInBounds_toArray, List.set_cons_zero, List.set_cons_succ, i64_w, i32_w]
                     rfl
                    refine done_ (done_of HT_.out (by kernel_rfl)) ?_
                    try go_wp2
                    go_roundg kj44
                    case measure => have := HJ7.out; have := HK2.out; have := HJ28.out; have := HJ44.out; omega
                    case rel => exact ⟨(wrap64 (x11_2 + 1)), (by first | rfl | (simp; done) | (simp [*]; done) | (simp [bne]; done) | (simp [bne, *]; done)), H', ⟨by have := HJ7.out; have := HK2.out; have := HJ28.out; have := HJ44.out; omega⟩, ⟨by (with_reducible repeat (first | apply Kd.R_alloc | apply Kd.R_drewN | apply Kd.R_drew)); exact Kd.R_mono HO_0.out (fun _ hk => hk.1.1.1.1)⟩, ⟨by (with_reducible repeat (first | apply Kd.R_alloc | apply Kd.R_drewN | apply Kd.R_drew)); exact Kd.R_mono HO_9.out (fun _ hk => trivial)⟩, ⟨by (with_reducible repeat (first | apply Kd.R_alloc | apply Kd.R_drewN | apply Kd.R_drew)); exact Kd.R_mono HO_10.out (fun _ hk => hk.1.1.1.1)⟩, ⟨by repeat (first | (with_reducible first | exact HB.out | apply below_alloc | apply pw_below_drewN | apply below_drew1) | exact HB.out)⟩⟩
                   ·replace c65 := Bool.eq_false_iff.mpr c65
                    subst c65
                    have H1 : (none) = some r := by rw [if_neg (show ¬ (false = true) by decide)] at H; exact H
                    clear H
                    have H := H1
                    clear H1
                    exact absurd H (by simp)
                  ·replace c63 := Bool.eq_false_iff.mpr c63
                   subst c63
                   have H1 : (none) = some r := by rw [if_neg (show ¬ (false = true) by decide)] at H; exact H
                   clear H
                   have H := H1
                   clear H1
                   exact absurd H (by simp)
                 ·replace c59 := Bool.eq_false_iff.mpr c59
                  subst c59
                  have H1 : (none) = some r := by rw [if_neg (show ¬ (false = true) by decide)] at H; exact H
                  clear H
                  have H := H1
                  clear H1
                  exact absurd H (by simp)
                ·replace c56 := Bool.eq_false_iff.mpr c56
                 subst c56
                 have H1 : (none) = some r := by rw [if_neg (show ¬ (false = true) by decide)] at H; exact H
                 clear H
                 have H := H1
                 clear H1
                 exact absurd H (by simp)
               ·rw [if_neg c52] at H
                exact absurd H (by simp)
              ·rw [if_neg c51] at H
               exact absurd H (by simp)
       ·rw [if_neg c24] at H
        exact absurd H (by simp)
      ·rw [if_neg c23] at H
       have c23b0 : decide (x11_2 < (x9_7.length : Int)) = false := decide_eq_false c23
       clear c23
       replace H := Option.bind_eq_some_iff.mp H
       obtain ⟨t118, A780, H⟩ := H
       replace H : (some t118) = some r := H
       have A78 := Aside0.mk A780
       clear A780
       obtain rfl := Option.some.inj H
       obtain ⟨Ao79, co79, eo79⟩ := Kd.R_slice HO_9.out
       subst eo79
       go_wp2_with (first | ((with_reducible refine gate_callee (f := 13) rfl ?_); refine goesL_ (some 169) rfl rfl Tryd.func13 (by kernel_rfl) rfl #[] rfl (by (try simp only [List.map_toArray, List.map_cons, List.map_nil]); first | done | rfl | (simp only [List.length_drop, List.length_take]; rfl)) ?_; (with_reducible refine (abatislaw14_lives.calls k2  t118 _ (maxis_below HMX.out (by repeat (first | (with_reducible first | exact HB.out | apply below_alloc | apply pw_below_drewN | apply below_drew1) | exact HB.out))) A78.out).mono ?_); rintro e w80 ⟨rfl, hb⟩; refine ⟨_, rfl, ?_⟩; have n0_ := Aside0.mk (Kd.R_below (by (with_reducible repeat (first | apply Kd.R_alloc | apply Kd.R_drewN | apply Kd.R_drew)); exact HO_0.out) hb); have n1_ := Aside0.mk (Kd.R_below (by (with_reducible repeat (first | apply Kd.R_alloc | apply Kd.R_drewN | apply Kd.R_drew)); exact HO_9.out) hb); have n2_ := Aside0.mk (Kd.R_below (by (with_reducible repeat (first | apply Kd.R_alloc | apply Kd.R_drewN | apply Kd.R_drew)); exact HO_10.out) hb); have n3_ := Aside0.mk (below_step (by repeat (first | (with_reducible first | exact HB.out | apply below_alloc | apply pw_below_drewN | apply below_drew1) | exact HB.out)) hb); clear HO_0; clear HO_9; clear HO_10; clear HB; have HO_0 := n0_; have HO_9 := n1_; have HO_10 := n2_; have HB := n3_; clear n0_ n1_ n2_ n3_; (try clear hb); (try clear hb2); (try clear hk); (try clear hi)))
       go_ret
       exact ⟨by first | rfl | (simp [errW_none, errW_some] <;> rfl) | (simp [*, errW_none, errW_some] <;> rfl), by repeat (first | (with_reducible first | exact HB.out | apply below_alloc | apply pw_below_drewN | apply below_drew1) | exact HB.out)⟩
   ·rw [if_neg c21] at H
    exact absurd H (by simp)

/-- THE ONE PURE STATEMENT of abatislaw14_HeadHeaders. -/
def abatislaw14_HeadHeaders.Pure : Prop := ∀ (l0 : List (S26)) (a1 : ByteArray) (a2 : ByteArray) (a3 : Int), (l0.length ≤ 9223372036854775807 ∧ ∀ x_ ∈ l0, (x_.f0.size ≤ 9223372036854775807 ∧ x_.f1.size ≤ 9223372036854775807)) → a1.size ≤ 140737488351232 → a2.size ≤ 140737488351232 → (Lit.int .i64 a3).wf = true → ∃ k, abatislaw14_HeadHeaders.f k l0 a1 a2 a3 = some true
-- EXT abatis/abatislaw14.HeadHeaders {"rounds": 1, "making": 1, "need": 1}

end Go.Proofs.YthjhbhgfckaklabDoor.P
