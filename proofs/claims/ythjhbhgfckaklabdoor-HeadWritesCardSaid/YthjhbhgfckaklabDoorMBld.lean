/-
  One text out of: Build, HeadW, HeadX.
-/
import Derived.Shelf.Strings.BuilderF
import Derived.Shelf.Abstract
import Derived.Test.YthjhbhgfckaklabDoorBase
import Derived.Lib.OthersKept
import Derived.Test.YthjhbhgfckaklabDoorShelfW
import Derived.Test.YthjhbhgfckaklabDoorPD1
section
namespace Go.Proofs.YthjhbhgfckaklabDoor.P
open Go.RowKit Go.Shelf Go.Proofs.YthjhbhgfckaklabDoorW.PrintWords Go.Proofs.YthjhbhgfckaklabDoorW.PrintLast Go.Proofs.YthjhbhgfckaklabDoorW.PrintMore
set_option linter.unusedVariables false
set_option linter.unusedSimpArgs false

theorem builder_size : (Tryd.prog.info? 94).map (·.size) = some 2 := by kernel_rfl
theorem builder_lies : liesAt Tryd.prog Tryd.prog.depth 94 (2 / Tryd.prog.cellsOf 94) 0 94 1 = true := by kernel_rfl
theorem info_byte : (Tryd.prog.info? 5).map (fun i => (i.zero, i.size, i.bytes)) = some (some (.int .u8 0), 1, 1) := by kernel_rfl
set_option maxRecDepth 100000 in
set_option maxHeartbeats 2000000 in
theorem copyCheck_fresh (b : Nat) (w : World) (h0 : w.cell? ⟨b, 0, none⟩ = some (.pointer none)) (hsh : w.shape? b = some (94, 2)) (hfz : w.frozen? ⟨b, 0, none⟩ = false) :
    Calls Tryd.prog 103 #[.pointer (some ⟨b, 0, none⟩)] w fun e w' => e = .returned (.tuple #[]) ∧ w' = w.setCell ⟨b, 0, none⟩ (.pointer (some ⟨b, 0, none⟩)) := by
  obtain ⟨j, hj, hjs⟩ := Option.map_eq_some_iff.1 builder_size
  go_enter Tryd.func103, Tryd.ntmps103
  go_wp2
  rw [Lib.run_to_unsafe w ⟨b, 0, none⟩ Tryd.underlying92 Tryd.underlying115 hj (by rw [hjs]; decide) hsh (Nat.zero_lt_succ 1)]
  simp only [Result.andThen]
  rw [Oper.upon_value]
  go_wp2
  rw [run_callFunc_extern Tryd.func114 (by kernel_rfl) (by kernel_rfl) (by kernel_rfl) (e := Extern.AbiNoEscape.same) (by kernel_rfl), Lib.run_noEscape]
  simp only [Result.andThen]
  rw [Oper.upon_value]
  go_wp2
  rw [Lib.run_from_unsafe w ⟨b, 0, none⟩ Tryd.underlying115 Tryd.underlying92 hj hsh builder_lies]
  simp only [Result.andThen]
  rw [Oper.upon_value]
  go_wp2
  go_end0
  exact ⟨rfl, rfl⟩
set_option maxRecDepth 100000 in
theorem copyCheck_used (b : Nat) (w : World) (h0 : w.cell? ⟨b, 0, none⟩ = some (.pointer (some ⟨b, 0, none⟩))) :
    Calls Tryd.prog 103 #[.pointer (some ⟨b, 0, none⟩)] w fun e w' => e = .returned (.tuple #[]) ∧ w' = w := by
  obtain ⟨j, hj, _⟩ := Option.map_eq_some_iff.1 builder_size
  go_enter Tryd.func103, Tryd.ntmps103
  go_wp2
  rw [Lib.run_neq_ptr_same w _ Tryd.underlying92 hj]
  simp only [Result.andThen]
  rw [Oper.upon_value]
  go_wp2
  go_end0
  exact ⟨rfl, rfl⟩
theorem copyCheck_at (B b : Nat) (bs : List Value) (w : World) (h : Lib.IsBuilderF 94 5 B b bs w) :
    Calls Tryd.prog 103 #[.pointer (some ⟨b, 0, none⟩)] w fun e w' => e = .returned (.tuple #[]) ∧ (Lib.BuilderAtF 94 5 B b (.pointer (some ⟨b, 0, none⟩)) bs w' ∧ Below B w w') := by
  rcases h with h | h
  · refine (copyCheck_fresh b w h.cell0 h.shape h.frozen0).mono ?_
    rintro e w' ⟨rfl, rfl⟩
    exact ⟨rfl, h.used _, (Below.refl B w).setCell (p := ⟨b, 0, none⟩) h.1 _⟩
  · refine (copyCheck_used b w h.cell0).mono ?_
    rintro e w' ⟨rfl, rfl⟩
    exact ⟨rfl, h, Below.refl B _⟩
set_option maxRecDepth 100000 in
set_option maxHeartbeats 2000000 in
theorem writeString_at (B b : Nat) (bs : List Value) (s : ByteArray) (w : World) (h : Lib.IsBuilderF 94 5 B b bs w) (hlen : bs.length + s.size ≤ 140737488355328) (hBw : B ≤ w.heap.size) :
    Calls Tryd.prog 85 #[.pointer (some ⟨b, 0, none⟩), .string s] w fun e w' => e = .returned (.tuple #[.int .i64 s.size, .nilIface]) ∧ (Lib.BuilderAtF 94 5 B b (.pointer (some ⟨b, 0, none⟩)) (bs ++ Lib.strCells s) w' ∧ Below B w w') := by
  obtain ⟨i0, hi, hz0, hz1, hz2⟩ := info_parts info_byte
  go_enter Tryd.func85, Tryd.ntmps85
  go_wp2_with (go_at_call 103; refine (copyCheck_at B b bs _ h).mono ?_)
  rintro e w1 ⟨rfl, h1, hb1⟩
  obtain ⟨hB, v, hbk, hown, hne⟩ := h1
  have c0 : w1.cell? ⟨b, 0, none⟩ = some (.pointer (some ⟨b, 0, none⟩)) := by rw [Lib.cell_of_heap hbk]; rfl
  have c1 : w1.cell? ⟨b, 1, none⟩ = some v := by rw [Lib.cell_of_heap hbk]; rfl
  go_wp2_with (at_builtin; refine Lib.wpList_append_own_stringF _ rfl _ _ 68 9 rfl B 5 i0 Tryd.underlying68 Tryd.underlying9 hi hz0 hz1 hz2 _ _ _ rfl hown s rfl ?c3 ?c4 ?c5 ?_)
  case c3 => unfold maxLen; omega
  case c4 => omega
  case c5 => have := hb1.size; omega
  intro v' w2 hown' hgrow _
  have hlt : b < w1.heap.size := (Array.getElem?_eq_some_iff.1 hbk).1
  have hb2 : w2.heap[b]? = some (.cells #[.pointer (some ⟨b, 0, none⟩), v] 94 (0, 0)) := (hgrow.block b hlt (fun e => hne e.symm)).trans hbk
  have d0 : w2.cell? ⟨b, 0, none⟩ = some (.pointer (some ⟨b, 0, none⟩)) := by rw [Lib.cell_of_heap hb2]; rfl
  have d1 : w2.cell? ⟨b, 1, none⟩ = some v := by rw [Lib.cell_of_heap hb2]; rfl
  have f1 : w2.frozen? ⟨b, 1, none⟩ = false := Lib.frozen_of_heap hb2 1
  obtain ⟨ao, n', cap, rfl⟩ : ∃ ao n' cap, v' = .slice ao n' cap := by
    rcases hown'.2 with ⟨hv, _⟩ | ⟨g, cap, cur, fz, hv, _⟩
    · exact ⟨_, _, _, hv⟩
    · exact ⟨_, _, _, hv⟩
  go_wp2
  go_ret2
  refine ⟨rfl, ?_, ?_⟩
  · exact Lib.BuilderAtF.put (T := 94) (e := 5) hB hb2 (bs' := bs ++ Lib.strCells s) (by simpa [Lib.strCells_length] using hown') (by decide)
  · exact (hb1.grown hgrow (by have := hb1.size; omega) (fun k hk => (hown.lt k hk).1)).setCell (p := ⟨b, 1, none⟩) hB _
end Go.Proofs.YthjhbhgfckaklabDoor.P
end
section
namespace Go.Proofs.YthjhbhgfckaklabDoor.P
open Go.RowKit Go.Proofs.YthjhbhgfckaklabDoorW.PrintWords Go.Proofs.YthjhbhgfckaklabDoorW.PrintLast Go.Proofs.YthjhbhgfckaklabDoorW.PrintMore
set_option linter.unusedVariables false
set_option linter.unusedSimpArgs false

/-! ### lines -/
def lineB (h : S26) : ByteArray := h.f0 ++ (⟨#[58, 32]⟩ : ByteArray) ++ h.f1 ++ (⟨#[13, 10]⟩ : ByteArray)
def linesB : List S26 → ByteArray
  | [] => ⟨#[]⟩
  | h :: l => lineB h ++ linesB l
theorem linesB_snoc : ∀ (l : List S26) (h : S26), linesB (l ++ [h]) = linesB l ++ lineB h
  | [], h => by
    show lineB h ++ (⟨#[]⟩ : ByteArray) = (⟨#[]⟩ : ByteArray) ++ lineB h
    apply ByteArray.ext
    simp
  | x :: l, h => by
    show lineB x ++ linesB (l ++ [h]) = lineB x ++ linesB l ++ lineB h
    rw [linesB_snoc l h, ByteArray.append_assoc]
def smallH (h : S26) : Bool := decide (h.f0.size ≤ 100000) && decide (h.f1.size ≤ 100000)
theorem lineB_size (h : S26) (hs : smallH h = true) : (lineB h).size ≤ 200004 := by
  unfold smallH at hs
  simp only [Bool.and_eq_true, decide_eq_true_iff] at hs
  unfold lineB
  rw [ByteArray.size_append, ByteArray.size_append, ByteArray.size_append]
  have z2 : (⟨#[58, 32]⟩ : ByteArray).size = 2 := rfl
  have z3 : (⟨#[13, 10]⟩ : ByteArray).size = 2 := rfl
  omega
theorem linesB_size : ∀ l : List S26, l.all smallH = true → (linesB l).size ≤ 200004 * l.length
  | [], _ => Nat.zero_le _
  | h :: l, hs => by
    rw [List.all_cons, Bool.and_eq_true] at hs
    have h1 := lineB_size h hs.1
    have h2 := linesB_size l hs.2
    show (lineB h ++ linesB l).size ≤ _
    rw [ByteArray.size_append, List.length_cons]
    omega
theorem all_take (l : List S26) (i : Nat) (h : l.all smallH = true) : (l.take i).all smallH = true := by
  rw [List.all_eq_true] at h ⊢
  exact fun x hx => h x (List.mem_of_mem_take hx)
theorem line_cells (a s : ByteArray) : Lib.byteCells a.data.toList ++ Lib.strCells s = Lib.byteCells (a ++ s).data.toList := by
  rw [Lib.strCells_eq, ← Lib.byteCells_append]
  simp
theorem wrap_nextW (i : Nat) (h : i < 9223372036854775807) : wrap64 ((i : Int) + 1) = ((i + 1 : Nat) : Int) := by unfold wrap64; omega
theorem measure_nextW (L i : Nat) (z : Int) (h : z = ((i + 1 : Nat) : Int)) (hlt : i < L) : L - (intOf (.int .i64 z)).toNat < L - (intOf (.int .i64 (i : Int))).toNat := by
  subst h
  show L - (((i + 1 : Nat) : Int)).toNat < L - ((i : Nat) : Int).toNat
  rw [Int.toNat_natCast, Int.toNat_natCast]
  omega

-- EXT abatis/head.lines {"rounds": 0, "making": 1}
def head_lines.f (l0 : List S26) : Option ByteArray := if l0.length ≤ 10000 ∧ l0.all smallH = true then some (linesB l0 ++ (⟨#[13, 10]⟩ : ByteArray)) else none
set_option maxRecDepth 100000 in
set_option maxHeartbeats 4000000 in
theorem head_lines.calls (A0 : Option Addr) (c0 : Nat) (l0 : List S26) (r : ByteArray) (w : World) (hr0 : Kd.C k26 w A0 l0.length l0) (hc0 : l0.length ≤ c0) (h : head_lines.f l0 = some r) :
    Calls Tryd.prog 59 #[.slice A0 l0.length c0] w fun e w' => e = .returned (.string r) ∧ Below w.heap.size w w' := by
  unfold head_lines.f at h
  split at h
  case isFalse => exact absurd h (by simp)
  rename_i hs
  have HS := Aside0.mk hs
  have HRES := Aside0.mk (Option.some.inj h)
  have HR0 := Aside0.mk hr0
  clear h hs hr0 hc0
  have hI0 := Aside0.mk (Lib.IsBuilderF.of (Lib.fresh_isBuilder 94 5 w))
  have hB0 := Aside0.mk ((Below.refl w.heap.size w).alloc (Nat.le_refl _) (.cells #[.pointer none, .slice none 0 0] 94))
  go_enter Tryd.func59, Tryd.ntmps59
  go_wp2
  go_loopw [8] (fun v8 w' => ∃ i : Nat, v8 = .int .i64 (i : Int) ∧ Aside0 (i ≤ l0.length) ∧ Aside0 (Lib.IsBuilderF 94 5 w.heap.size w.heap.size (Lib.byteCells (linesB (l0.take i)).data.toList) w') ∧ Aside0 (Below w.heap.size w w')) (fun v8 _ => l0.length - (intOf v8).toNat)
  case atStart => exact ⟨0, rfl, ⟨Nat.zero_le _⟩, ⟨hI0.out⟩, ⟨hB0.out⟩⟩
  case round =>
    clear hI0 hB0
    obtain ⟨i, rfl, HI, HBD, HB⟩ := hrel
    by_cases hlt : i < l0.length
    · have c3b0 : decide ((i : Int) < (l0.length : Int)) = true := decide_eq_true (by omega)
      have c3b1 : decide (i < l0.length) = true := decide_eq_true hlt
      have c3b2 : (0 : Int) ≤ (i : Int) := Int.natCast_nonneg i
      obtain ⟨ad, e133, hx0, hx1⟩ := at_T26 HR0.out (i : Int) c3b2 (by omega)
      cases e133
      replace hx0 := (HB.out.cell (World.block_lt_of_cell? w _ hx0)).trans hx0
      replace hx1 := (HB.out.cell (World.block_lt_of_cell? w _ hx1)).trans hx1
      rw [Int.toNat_natCast] at hx0 hx1
      have hget : rd_T26 l0 (i : Int) = l0[i] := by
        unfold rd_T26
        rw [Int.toNat_natCast, List.getD_eq_getElem?_getD, List.getElem?_eq_getElem hlt]
        rfl
      have hsm : smallH l0[i] = true := List.all_eq_true.1 HS.out.2 _ (List.getElem_mem hlt)
      have hnext : linesB (l0.take (i + 1)) = linesB (l0.take i) ++ lineB l0[i] := by
        rw [List.take_add_one, List.getElem?_eq_getElem hlt]
        exact linesB_snoc _ _
      have hz := linesB_size (l0.take i) (all_take l0 i HS.out.2)
      rw [List.length_take] at hz
      have hz2 := lineB_size l0[i] hsm
      rw [hget] at hx0 hx1
      obtain ⟨g0, hg0⟩ : ∃ g, g = l0[i].f0 := ⟨_, rfl⟩
      obtain ⟨g1, hg1⟩ : ∃ g, g = l0[i].f1 := ⟨_, rfl⟩
      have hline : lineB l0[i] = g0 ++ (⟨#[58, 32]⟩ : ByteArray) ++ g1 ++ (⟨#[13, 10]⟩ : ByteArray) := by rw [hg0, hg1]; rfl
      have hs0 : g0.size ≤ 100000 ∧ g1.size ≤ 100000 := by
        unfold smallH at hsm
        simp only [Bool.and_eq_true, decide_eq_true_iff] at hsm
        rw [hg0, hg1]; exact hsm
      rw [← hg0] at hx0
      rw [← hg1] at hx1
      have HNEXT := Aside0.mk hnext
      have HLINE := Aside0.mk hline
      have HZ := Aside0.mk (show (linesB (l0.take i)).size + 200004 ≤ 140737488355328 by have := HS.out.1; omega)
      have HZ2 := Aside0.mk hz2
      have HS0 := Aside0.mk hs0
      have e1 := wrap_nextW i (Nat.lt_of_lt_of_le hlt (Nat.le_trans HS.out.1 (by omega)))
      have E1 := Aside0.mk e1
      clear hget hsm hnext hz hz2 hg0 hg1 hline hs0 e1
      replace c3b2 := eq_true c3b2
      have q1 : (9223372036854775807 < g0.size + 2) = False := eq_false (by have := HS0.out; omega)
      have q2 : (9223372036854775807 < g0.size + 2 + g1.size) = False := eq_false (by have := HS0.out; omega)
      have q3 : (9223372036854775807 < g0.size + 2 + g1.size + 2) = False := eq_false (by have := HS0.out; omega)
      have HBD2 := Aside0.mk (HBD.out.alloc (.cells #[.string g0, .string g1] 26))
      have HSZ := Aside0.mk HB.out.size
      have HLEN := Aside0.mk (show (Lib.byteCells (linesB (l0.take i)).data.toList).length + (g0 ++ (⟨#[58, 32]⟩ : ByteArray) ++ g1 ++ (⟨#[13, 10]⟩ : ByteArray)).size ≤ 140737488355328 by
        have h0 : (Lib.byteCells (linesB (l0.take i)).data.toList).length = (linesB (l0.take i)).size := by
          unfold Lib.byteCells
          rw [List.length_map, data_length]
        have h1 := HZ.out
        have h2 := HZ2.out
        rw [HLINE.out] at h2
        rw [h0]
        omega)
      have HSZ2 := Aside0.mk (show w.heap.size ≤ (wr.alloc (.cells #[.string g0, .string g1] 26)).heap.size by have := HSZ.out; simp; omega)
      go_wp2_with (go_at_call 85; refine (writeString_at w.heap.size w.heap.size _ _ _ HBD2.out HLEN.out HSZ2.out).mono ?_; rintro e w1 ⟨rfl, hbd, hB⟩)
      rw [line_cells, ← HLINE.out, ← HNEXT.out] at hbd
      go_roundw
      case rel => exact ⟨i + 1, congrArg (Value.int .i64) E1.out, ⟨hlt⟩, ⟨.inr hbd⟩, ⟨HB.out.trans (((Below.refl _ wr).alloc HSZ.out _).trans hB)⟩⟩
      case measure => exact measure_nextW l0.length i _ E1.out hlt
    · have c3b0 : decide ((i : Int) < (l0.length : Int)) = false := decide_eq_false (by omega)
      have c3b1 : decide (i < l0.length) = false := decide_eq_false hlt
      have hI := HBD.out
      rw [List.take_of_length_le (by omega)] at hI
      have HI2 := Aside0.mk hI
      have hz := linesB_size l0 HS.out.2
      have hz2 : (9223372036854775807 < (linesB l0).size + 2) = False := eq_false (by have := HS.out.1; omega)
      have HSZ := Aside0.mk HB.out.size
      clear hI hz
      go_wp2_with (go_at_call 86; refine (Tryd.Builder_String_any_f w.heap.size w.heap.size _ _ HI2.out HSZ.out).mono ?_; rintro e w1 ⟨rfl, _, hB⟩)
      go_ret
      exact ⟨by rw [← HRES.out]; rfl, HB.out.trans hB⟩
end Go.Proofs.YthjhbhgfckaklabDoor.P
end
section
namespace Go.Proofs.YthjhbhgfckaklabDoor.P
open Go.RowKit Go.Proofs.YthjhbhgfckaklabDoorW.PrintWords Go.Proofs.YthjhbhgfckaklabDoorW.PrintLast Go.Proofs.YthjhbhgfckaklabDoorW.PrintMore
set_option linter.unusedVariables false
set_option linter.unusedSimpArgs false

-- EXT strings.HasPrefix {"rounds": 0, "making": 1}
def strings_HasPrefix.f (a0 a1 : ByteArray) : Option Bool := some (Lib.hasPrefix a0.data.toList a1.data.toList)
theorem strings_HasPrefix.calls (a0 a1 : ByteArray) (r : Bool) (w : World) (h : strings_HasPrefix.f a0 a1 = some r) :
    Calls Tryd.prog 42 #[.string a0, .string a1] w fun e w' => e = .returned (.bool r) ∧ Below w.heap.size w w' := by
  refine (Tryd.strings_HasPrefix a0 a1 w).mono fun e w' ⟨he, hw⟩ => ?_
  subst hw
  exact ⟨by rw [he, Option.some.inj h], Below.refl _ _⟩
set_option maxRecDepth 100000 in
theorem odd_is (x : S26) (b : Bool) (w : World) (h : head_header.f x.f0 x.f1 = some b) :
    Calls Tryd.prog 38 #[.agg #[.string x.f0, .string x.f1]] w fun e w' => e = .returned (.bool (!b)) ∧ Below w.heap.size w w' := by
  have H := Aside0.mk h
  clear h
  go_enter Tryd.func38, Tryd.ntmps38
  go_wp2_with (go_at_call 39; refine (head_header.calls x.f0 x.f1 b _ H.out).mono ?_; rintro e w' ⟨rfl, hB⟩)
  go_ret
  exact ⟨by rfl, ((Below.refl _ w).alloc (Nat.le_refl _) _).trans (hB.mono (by simp))⟩
/-- Where the first header that may not be stands, reckoned from i; -1: nowhere. -/
def oddFrom : List S26 → Int → Option Int
  | [], _ => some (-1)
  | x :: l, i => (head_header.f x.f0 x.f1).bind fun b => if b = true then oddFrom l (i + 1) else some i
set_option maxHeartbeats 2000000 in
set_option maxRecDepth 100000 in
theorem odd_index (A0 : Option Addr) (c0 : Nat) (l0 : List S26) (r : Int) (w : World) (hr0 : Kd.C k26 w A0 l0.length l0) (hc0 : l0.length ≤ c0) (h : oddFrom l0 0 = some r) :
    Calls Tryd.prog 68 #[.slice A0 l0.length c0, .func (.func 38) #[] #[]] w fun e w' => e = .returned (.int .i64 r) ∧ Below w.heap.size w w' := by
  have HR0 := Aside0.mk hr0
  have H := Aside0.mk h
  have HN := Aside0.mk hr0.2.1
  clear hr0 hc0 h
  have eg : ∀ args w, (callFunc 38 args).run Tryd.prog w = .ok (.enter 38 args) w := enters_of Tryd.func38 (by kernel_rfl) rfl
  go_enter Tryd.func68, Tryd.ntmps68
  go_wp2
  go_loopw [8] (fun v8 w' => ∃ i : Nat, v8 = .int .i64 (i : Int) ∧ Aside0 (oddFrom (l0.drop i) (i : Int) = some r) ∧ Aside0 (i ≤ l0.length) ∧ Aside0 (Below w.heap.size w w')) (fun v8 _ => l0.length - (intOf v8).toNat)
  case atStart => exact ⟨0, rfl, ⟨by rw [List.drop_zero]; exact H.out⟩, ⟨Nat.zero_le _⟩, ⟨Below.refl _ _⟩⟩
  case round =>
    clear H
    obtain ⟨i, rfl, HA, HI, HB⟩ := hrel
    by_cases hlt : i < l0.length
    · have c3b0 : decide ((i : Int) < (l0.length : Int)) = true := decide_eq_true (by omega)
      have c3b1 : decide (i < l0.length) = true := decide_eq_true hlt
      have c3b2 : (0 : Int) ≤ (i : Int) := Int.natCast_nonneg i
      obtain ⟨ad, e133, hx0, hx1⟩ := at_T26 HR0.out (i : Int) c3b2 (by omega)
      cases e133
      replace hx0 := (HB.out.cell (World.block_lt_of_cell? w _ hx0)).trans hx0
      replace hx1 := (HB.out.cell (World.block_lt_of_cell? w _ hx1)).trans hx1
      rw [Int.toNat_natCast] at hx0 hx1
      have hd : l0.drop i = rd_T26 l0 (i : Int) :: l0.drop (i + 1) := by
        rw [List.drop_eq_getElem_cons hlt]
        congr 1
        unfold rd_T26
        rw [Int.toNat_natCast, List.getD_eq_getElem?_getD, List.getElem?_eq_getElem hlt]
        rfl
      have hA := HA.out
      rw [hd] at hA
      unfold oddFrom at hA
      obtain ⟨b, hb, hA⟩ := Option.bind_eq_some_iff.mp hA
      have HLK := Aside0.mk hb
      have HA2 := Aside0.mk hA
      clear hb hA HA hd
      replace c3b2 := eq_true c3b2
      cases b with
      | false =>
        have HR := Aside0.mk (Option.some.inj ((if_neg (show ¬ (false = true) by decide)).symm.trans HA2.out))
        go_wp2_with (go_at_call 38; refine (odd_is (rd_T26 l0 (i : Int)) false _ HLK.out).mono ?_; rintro e w' ⟨rfl, hB⟩)
        go_ret
        exact ⟨by rw [← HR.out]; rfl, HB.out.trans (hB.mono HB.out.size)⟩
      | true =>
        have HR := Aside0.mk ((if_pos rfl).symm.trans HA2.out)
        go_wp2_with (go_at_call 38; refine (odd_is (rd_T26 l0 (i : Int)) true _ HLK.out).mono ?_; rintro e w' ⟨rfl, hB⟩)
        have e1 := wrap_nextW i (Nat.lt_of_lt_of_le hlt HN.out)
        go_roundw
        case rel => exact ⟨i + 1, congrArg (Value.int .i64) e1, ⟨HR.out⟩, ⟨hlt⟩, ⟨HB.out.trans (hB.mono HB.out.size)⟩⟩
        case measure => exact measure_nextW l0.length i _ e1 hlt
    · have c3b0 : decide ((i : Int) < (l0.length : Int)) = false := decide_eq_false (by omega)
      have c3b1 : decide (i < l0.length) = false := decide_eq_false hlt
      have hA := HA.out
      rw [List.drop_of_length_le (by omega)] at hA
      have HR := Aside0.mk (Option.some.inj hA)
      clear hA HA
      go_wp2
      go_ret
      exact ⟨by rw [← HR.out]; rfl, HB.out⟩
-- EXT slices.ContainsFunc[[]abatis/api.Header,abatis/api.Header] {"rounds": 0, "making": 1}
def api_Header_43.f (l0 : List S26) (a1 : Int) : Option Bool := (oddFrom l0 0).bind fun r => some (decide (0 ≤ r))
set_option maxRecDepth 100000 in
theorem api_Header_43.calls (A0 : Option Addr) (c0 : Nat) (l0 : List S26) (a1 : Int) (r : Bool) (w : World) (hr0 : Kd.C k26 w A0 l0.length l0) (hc0 : l0.length ≤ c0) (h : api_Header_43.f l0 a1 = some r) :
    Calls Tryd.prog 43 #[.slice A0 l0.length c0, .func (.func 38) #[] #[]] w fun e w' => e = .returned (.bool r) ∧ Below w.heap.size w w' := by
  unfold api_Header_43.f at h
  obtain ⟨q, hq, h⟩ := Option.bind_eq_some_iff.mp h
  have HR0 := Aside0.mk hr0
  have HC0 := Aside0.mk hc0
  have HQ := Aside0.mk hq
  obtain rfl := Option.some.inj h
  clear hr0 hc0 h hq
  go_enter Tryd.func43, Tryd.ntmps43
  go_wp2_with (go_at_call 68; refine (odd_index A0 c0 l0 q _ HR0.out HC0.out HQ.out).mono ?_; rintro e w' ⟨rfl, hB⟩)
  go_ret
  exact ⟨rfl, hB⟩
end Go.Proofs.YthjhbhgfckaklabDoor.P
end
