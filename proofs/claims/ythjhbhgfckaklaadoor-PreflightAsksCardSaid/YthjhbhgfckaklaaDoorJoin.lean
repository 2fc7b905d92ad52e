/-
  strings.Join: texts with one between them, by a strings.Builder that is grown first.
-/
import Derived.Lib.OthersKept
import Derived.Shelf.RegionOpenPlain
import Derived.RangeFuncRecord
import Derived.Test.YthjhbhgfckaklaaDoorBuild
import Derived.Test.YthjhbhgfckaklaaDoorShelfJ
namespace Go.Proofs.YthjhbhgfckaklaaDoor.P
open Go.RowKit Go.Proofs.YthjhbhgfckaklaaDoorW.PrintWords Go.Proofs.YthjhbhgfckaklaaDoorW.PrintLast Go.Proofs.YthjhbhgfckaklaaDoorW.PrintMore
set_option linter.unusedVariables false
set_option linter.unusedSimpArgs false
set_option maxRecDepth 100000 in
set_option maxHeartbeats 2000000 in
theorem grow_fresh (B b n : Nat) (w : World) (hB : B ≤ b) (hbk : w.heap[b]? = some (.cells #[.pointer none, .slice none 0 0] 116 (0, 0))) (hBw : B ≤ w.heap.size) (hn : n ≤ 281474976710656) :
  Calls Tryd.prog 85 #[.pointer (some ⟨b, 0, none⟩), .int .i64 (n : Int)] w fun e w' => e = .returned (.tuple #[]) ∧ Lib.IsBuilderF 116 5 B b [] w' ∧ Below B w w' := by
 have h0 : w.cell? ⟨b, 0, none⟩ = some (.pointer none) := by rw [Lib.cell_of_heap hbk]; rfl
 have hsh : w.shape? b = some (116, 2) := by simp [World.shape?, hbk]
 have hfz : w.frozen? ⟨b, 0, none⟩ = false := Lib.frozen_of_heap hbk 0
 have hb1 : (w.setCell ⟨b, 0, none⟩ (.pointer (some ⟨b, 0, none⟩))).heap[b]? = some (.cells #[.pointer (some ⟨b, 0, none⟩), .slice none 0 0] 116 (0, 0)) := blk_set hbk 0 _
 have c1 : (w.setCell ⟨b, 0, none⟩ (.pointer (some ⟨b, 0, none⟩))).cell? ⟨b, 1, none⟩ = some (.slice none 0 0) := by rw [Lib.cell_of_heap hb1]; rfl
 have HB1 := Aside0.mk hb1
 have HBL := Aside0.mk ((Below.refl B w).setCell (p := ⟨b, 0, none⟩) hB (.pointer (some ⟨b, 0, none⟩)))
 have HCC := Aside0.mk (copyCheck_fresh b w h0 hsh hfz)
 have c1' : (w.setCell ⟨b, 0, none⟩ (.pointer (some ⟨b, 0, none⟩))).drew.cell? ⟨b, 1, none⟩ = some (.slice none 0 0) := c1
 have mixed : Tryd.prog.follows Departure.mixedOrders = true := by kernel_rfl
 have hU : Lib.BuilderAtF 116 5 B b (.pointer (some ⟨b, 0, none⟩)) [] (w.setCell ⟨b, 0, none⟩ (.pointer (some ⟨b, 0, none⟩))) := ⟨hB, .slice none 0 0, hb1, World.ownsRowF_nil _ _ _ _, by simp [Value.ownBlock]⟩
 have HU := Aside0.mk hU
 clear hb1 h0 hsh hfz hbk hU
 have hneg : ¬ (n : Int) < 0 := by omega
 go_enter Tryd.func85, Tryd.ntmps85
 go_wp2_with (go_at_call 107; refine HCC.out.mono ?_; rintro e w1 ⟨rfl, rfl⟩)
 go_region_o
 all_goals go_wp2_with (go_at_call 108; refine (Tryd.Builder_grow_fresh B b n (w.setCell ⟨b, 0, none⟩ (.pointer (some ⟨b, 0, none⟩))).drew hB HB1.out (by simpa [World.setCell, World.drew, -World.drew_eq] using hBw) hn).mono ?_; rintro e w2 ⟨rfl, h1, h2⟩)
 all_goals first
  | (go_end0; exact ⟨rfl, Lib.IsBuilderF.of (.inr h1), HBL.out.drew.trans h2⟩)
  | (go_end0; exact ⟨rfl, .inr HU.out.drew, HBL.out.drew⟩)
def joinT (sep : ByteArray) (a : ByteArray) : List ByteArray → ByteArray
 | [] => a
 | s :: l => joinT sep (a ++ sep ++ s) l
def joinS (sep : ByteArray) : List ByteArray → ByteArray
 | [] => ⟨#[]⟩
 | a :: l => joinT sep a l
theorem joinT_snoc (sep : ByteArray) : ∀ (l : List ByteArray) (a s : ByteArray), joinT sep a (l ++ [s]) = joinT sep a l ++ sep ++ s
 | [], a, s => rfl
 | x :: l, a, s => by
  show joinT sep (a ++ sep ++ x) (l ++ [s]) = joinT sep (a ++ sep ++ x) l ++ sep ++ s
  exact joinT_snoc sep l _ s
def smallS (s : ByteArray) : Bool := decide (s.size ≤ 1000000)
theorem joinT_size (sep : ByteArray) (hsep : sep.size ≤ 1000000) : ∀ (l : List ByteArray) (a : ByteArray), l.all smallS = true → (joinT sep a l).size ≤ a.size + 2000000 * l.length
 | [], a, _ => by show a.size ≤ a.size + 2000000 * 0; omega
 | x :: l, a, h => by
  rw [List.all_cons, Bool.and_eq_true] at h
  have hx : x.size ≤ 1000000 := of_decide_eq_true h.1
  have ih := joinT_size sep hsep l (a ++ sep ++ x) h.2
  rw [ByteArray.size_append, ByteArray.size_append] at ih
  rw [List.length_cons]
  show (joinT sep (a ++ sep ++ x) l).size ≤ _
  omega
theorem small_take (l : List ByteArray) (i : Nat) (h : l.all smallS = true) : (l.take i).all smallS = true := by
 rw [List.all_eq_true] at h ⊢
 exact fun x hx => h x (List.mem_of_mem_take hx)
theorem join_cells (a s : ByteArray) : Lib.byteCells a.data.toList ++ Lib.strCells s = Lib.byteCells (a ++ s).data.toList := by
 rw [Lib.strCells_eq, ← Lib.byteCells_append]
 simp
theorem join_cells0 (s : ByteArray) : [] ++ Lib.strCells s = Lib.byteCells s.data.toList := by rw [Lib.strCells_eq]; rfl
theorem byteCells_len (a : ByteArray) : (Lib.byteCells a.data.toList).length = a.size := by unfold Lib.byteCells; rw [List.length_map, data_length]
theorem wrap_nextJ (i : Nat) (h : i ≤ 1000000) : wrap64 ((i : Int) + 1) = ((i + 1 : Nat) : Int) := by unfold wrap64; omega
theorem measure_nextJ (L i : Nat) (z : Int) (h : z = ((i + 1 : Nat) : Int)) (hlt : i < L) : L - (intOf (.int .i64 z)).toNat < L - (intOf (.int .i64 (i : Int))).toNat := by
 subst h
 show L - (((i + 1 : Nat) : Int)).toNat < L - ((i : Nat) : Int).toNat
 rw [Int.toNat_natCast, Int.toNat_natCast]
 omega
theorem wrap_addJ (n s : Nat) (h : n + s ≤ 1000000000000000) : wrap64 ((n : Int) + (s : Int)) = ((n + s : Nat) : Int) := by unfold wrap64; omega
theorem wrap_natJ (n : Nat) (h : n ≤ 1000000000000000) : wrap64 (n : Int) = (n : Int) := by unfold wrap64; omega
theorem div_farJ (m s : Int) (h1 : 1 ≤ m) (h2 : m ≤ 100000) (hs : s ≤ 1000000) : ¬ (9223372036854775807 : Int) / m ≤ s := by
 have h3 : (1000001 : Int) ≤ 9223372036854775807 / m := Int.le_ediv_of_mul_le (by omega) (by omega)
 omega
theorem farJ (n s : Nat) (h : n + s ≤ 1000000000000000) : decide ((9223372036854775807 : Int) - (n : Int) < (s : Int)) = false := decide_eq_false (by omega)
theorem farJw (n s : Nat) (h : n + s ≤ 1000000000000000) : decide (wrap64 ((9223372036854775807 : Int) - (n : Int)) < (s : Int)) = false := decide_eq_false (by unfold wrap64; omega)
theorem joinT_room (sep : ByteArray) (hsep : sep.size ≤ 1000000) (l : List ByteArray) (x : ByteArray) (hx : x.size ≤ 1000000) (h : l.all smallS = true) (hl : l.length ≤ 100000) : (Lib.byteCells (joinT sep x l).data.toList).length + 2000000 ≤ 140737488355328 := by
 have := joinT_size sep hsep l x h
 rw [byteCells_len]
 omega
theorem room_le (a b : Nat) (h : a + 2000000 ≤ 140737488355328) (hb : b ≤ 2000000) : a + b ≤ 140737488355328 := by omega
theorem room_two (a s1 s2 : ByteArray) (h : (Lib.byteCells a.data.toList).length + 2000000 ≤ 140737488355328) (h1 : s1.size ≤ 1000000) (h2 : s2.size ≤ 1000000) : (Lib.byteCells (a ++ s1).data.toList).length + s2.size ≤ 140737488355328 := by
 rw [byteCells_len] at h ⊢
 rw [ByteArray.size_append]
 omega
def strings_Join.f (l0 : List ByteArray) (a1 : ByteArray) : Option ByteArray := if l0.length ≤ 100000 ∧ l0.all smallS = true ∧ a1.size ≤ 1000000 then some (joinS a1 l0) else none
set_option maxRecDepth 100000 in
set_option maxHeartbeats 4000000 in
theorem strings_Join.calls (A0 : Option Addr) (c0 : Nat) (l0 : List ByteArray) (a1 : ByteArray) (r : ByteArray) (w : World) (hr0 : Kd.C Kd.string w A0 l0.length l0) (hc0 : l0.length ≤ c0) (h : strings_Join.f l0 a1 = some r) :
  Calls Tryd.prog 46 #[.slice A0 l0.length c0, .string a1] w fun e w' => e = .returned (.string r) ∧ Below w.heap.size w w' := by
 unfold strings_Join.f at h
 split at h
 case isFalse => exact absurd h (by simp)
 rename_i hs
 have HRES := Aside0.mk (Option.some.inj h)
 have HR0 := Aside0.mk hr0
 have HC0 := Aside0.mk hc0
 obtain ⟨hs1, hs2, hs3⟩ := hs
 have HS := Aside0.mk hs2
 have HS1 := Aside0.mk hs1
 have HS3 := Aside0.mk hs3
 clear h hr0 hc0 hs2
 rcases Nat.lt_or_ge l0.length 2 with h2 | h2
 ·rcases Nat.lt_or_ge l0.length 1 with h1 | h1
  ·have hz : l0 = [] := List.eq_nil_of_length_eq_zero (by omega)
   have hr : r = ⟨#[]⟩ := by rw [← HRES.out, hz]; rfl
   have HRR := Aside0.mk hr
   have q0 : ((l0.length : Int) == 0) = true := beq_iff_eq.mpr (by omega)
   have q1 : l0.length = 0 := by omega
   clear hz hr h2 h1 HRES
   go_enter Tryd.func46, Tryd.ntmps46
   go_wp2
   go_ret
   exact ⟨by rw [HRR.out]; rfl, Below.refl _ _⟩
  ·have q1 : l0.length = 1 := by omega
   obtain ⟨ad, e0, hx0⟩ := Kd.at_string HR0.out 0 (by decide) (by omega)
   cases e0
   have hr : r = rdOf ByteArray.empty l0 0 := by
    rw [← HRES.out]
    match l0, q1 with
    | [x], _ => rfl
   have HRR := Aside0.mk hr
   rw [show ((0 : Int)).toNat = 0 from rfl, Addr.add_zero'] at hx0
   have q0 : ((l0.length : Int) == 0) = false := beq_eq_false_iff_ne.mpr (by omega)
   have q2 : ((l0.length : Int) == 1) = true := beq_iff_eq.mpr (by omega)
   have q3 : (0 : Int) < (l0.length : Int) := by omega
   clear hr h2 h1 HRES
   go_enter Tryd.func46, Tryd.ntmps46
   go_wp2
   go_ret
   exact ⟨by rw [HRR.out]; rfl, Below.refl _ _⟩
 ·obtain ⟨ad, e0, hx0⟩ := Kd.at_string HR0.out 0 (by decide) (by omega)
  cases e0
  have q0 : ((l0.length : Int) == 0) = false := beq_eq_false_iff_ne.mpr (by omega)
  have q2 : ((l0.length : Int) == 1) = false := beq_eq_false_iff_ne.mpr (by omega)
  have q3 : (0 : Int) < (l0.length : Int) := by omega
  obtain ⟨x, M, hLM⟩ : ∃ x M, l0 = x :: M := by
   cases l0 with
   | nil => simp at h2
   | cons x M => exact ⟨x, M, rfl⟩
  have hr00 : rdOf ByteArray.empty l0 0 = x := by rw [hLM]; rfl
  rw [hr00] at hx0
  have hsx : x.size ≤ 1000000 := by
   have := HS.out
   rw [hLM, List.all_cons, Bool.and_eq_true] at this
   exact of_decide_eq_true this.1
  rw [show ((0 : Int)).toNat = 0 from rfl, Addr.add_zero'] at hx0
  have HX0 : Aside0 (w.cell? ad = some (.string x)) := ⟨hx0⟩
  have HLM := Aside0.mk hLM
  clear hx0
  clear hr00 hLM
  go_enter Tryd.func46, Tryd.ntmps46
  have hs1' := HS1.out
  have hs3' := HS3.out
  by_cases hse : 0 < a1.size
  ·have hsi : (0 : Int) < (a1.size : Int) := by omega
   obtain ⟨m, hm⟩ : ∃ m : Nat, l0.length = m + 1 := ⟨l0.length - 1, by omega⟩
   have hm1 : (l0.length : Int) - 1 = (m : Int) := by omega
   have hmul : a1.size * m ≤ 1000000 * 100000 := Nat.mul_le_mul hs3' (by omega)
   obtain ⟨N, hN⟩ : ∃ N : Nat, a1.size * m = N := ⟨_, rfl⟩
   have hmi : (a1.size : Int) * ((l0.length : Int) - 1) = (N : Int) := by rw [hm1, ← hN]; exact (Int.natCast_mul _ _).symm
   have hNb : N ≤ 100000000000 := by rw [← hN]; omega
   have hwN : wrap64 (N : Int) = (N : Int) := wrap_natJ N (by omega)
   have hq := div_farJ ((l0.length : Int) - 1) (a1.size : Int) (by omega) (by omega) (by omega)
   clear hm hm1 hmul hN
   go_wp2
   clear hq hmi hwN
   go_loopw [5, 7, 41] (fun v5 v7 v41 wr => ∃ (i n : Nat), v5 = .int .i64 (n : Int) ∧ v41 = .int .i64 (i : Int) ∧ Aside0 (i ≤ l0.length) ∧ Aside0 (n ≤ 100000000000 + 1000000 * i) ∧ Aside0 (Below w.heap.size w wr)) (fun _ _ v41 _ => l0.length - (intOf v41).toNat)
   case atStart => exact ⟨0, N, rfl, rfl, ⟨Nat.zero_le _⟩, ⟨by omega⟩, ⟨Below.refl _ _⟩⟩
   case round =>
    obtain ⟨i, n, rfl, rfl, HI, HN, HB⟩ := hrel
    by_cases hlt : i < l0.length
    ·have c3b0 : decide ((i : Int) < (l0.length : Int)) = true := decide_eq_true (by omega)
     have c3b1 : decide (i < l0.length) = true := decide_eq_true hlt
     have c3b2 : (0 : Int) ≤ (i : Int) := Int.natCast_nonneg i
     obtain ⟨ad', e133, hx⟩ := Kd.at_string HR0.out (i : Int) c3b2 (by omega)
     obtain rfl : ad = ad' := by injection e133
     replace hx := (HB.out.cell (World.block_lt_of_cell? w _ hx)).trans hx
     have hss : (rdOf ByteArray.empty l0 (i : Int)).size ≤ 1000000 := by
      have h1 : rdOf ByteArray.empty l0 (i : Int) = l0[i] := by
       unfold rdOf
       rw [Int.toNat_natCast, List.getD_eq_getElem?_getD, List.getElem?_eq_getElem hlt]
       rfl
      rw [h1]
      exact of_decide_eq_true (List.all_eq_true.1 HS.out _ (List.getElem_mem hlt))
     obtain ⟨s, hs⟩ : ∃ s, rdOf ByteArray.empty l0 (i : Int) = s := ⟨_, rfl⟩
     rw [hs] at hx hss
     rw [Int.toNat_natCast] at hx
     have hn := HN.out
     have hi5 := HS1.out
     have e1 := wrap_nextJ i (by omega)
     have hns : n + s.size ≤ 1000000000000000 := by omega
     have e2 := wrap_addJ n s.size hns
     have c4 := farJ n s.size hns
     have c4w := farJw n s.size hns
     have c4p := of_decide_eq_false c4
     have c4q := of_decide_eq_false c4w
     have HNN := Aside0.mk hn
     have HSS := Aside0.mk hss
     clear hn hss hns hi5
     replace c3b2 := eq_true c3b2
     clear hs
     go_wp2
     go_roundw
     case rel => exact ⟨i + 1, n + s.size, (by first | exact congrArg (Value.int .i64) e2 | rfl), (by first | exact congrArg (Value.int .i64) e1 | rfl), ⟨hlt⟩, ⟨by have := HNN.out; have := HSS.out; omega⟩, HB⟩
     case measure => exact measure_nextJ l0.length i _ (by first | exact e1 | rfl) hlt
    ·have c3b0 : decide ((i : Int) < (l0.length : Int)) = false := decide_eq_false (by omega)
     have c3b1 : decide (i < l0.length) = false := decide_eq_false hlt
     have hn : n ≤ 281474976710656 := by have := HN.out; have := HI.out; have := HS1.out; omega
     have hbk := World.alloc_heap_new wr (.cells #[.pointer none, .slice none 0 0] 116)
     have HBK := Aside0.mk hbk
     have HSW := Aside0.mk HB.out.size
     have HB1 := Aside0.mk (HB.out.alloc HB.out.size (.cells #[.pointer none, .slice none 0 0] 116))
     have hc1 : ¬ (c0 = 1) := by have := HC0.out; omega
     have hc2 : (1 : Int) ≤ (l0.length : Int) := by omega
     have hc3 : (l0.length : Int) ≤ (c0 : Int) := by have := HC0.out; omega
     clear hbk
     go_wp2_with (first
      | (go_at_call 85; refine (grow_fresh wr.heap.size wr.heap.size n _ (Nat.le_refl _) HBK.out (by rw [World.size_alloc]; omega) hn).mono ?_; rintro e w2 ⟨rfl, hbd, hB2⟩; have HB2 := Aside0.mk (HB1.out.trans (hB2.mono HSW.out)); have hx2 := (HB2.out.cell (World.block_lt_of_cell? w _ HX0.out)).trans HX0.out; have HS2 := Aside0.mk (Nat.le_trans (by rw [World.size_alloc]; omega : wr.heap.size ≤ (wr.alloc (.cells #[.pointer none, .slice none 0 0] 116)).heap.size) hB2.size); clear hB2)
      | (go_at_call 86; refine (writeString_at wr.heap.size wr.heap.size [] x _ hbd (by simp; omega) HS2.out).mono ?_; rintro e w3 ⟨rfl, hbd3, hB3⟩; have HB3 := Aside0.mk (HB2.out.trans (hB3.mono HSW.out)); have HS3 := Aside0.mk (Nat.le_trans HS2.out hB3.size); have HBD3 := Aside0.mk hbd3; clear hB3 hbd3 hbd))
     have hM : l0.length - 1 = M.length := by rw [HLM.out]; simp
     have HM := Aside0.mk hM
     have HSM : Aside0 (M.all smallS = true) := ⟨by have := HS.out; rw [HLM.out, List.all_cons, Bool.and_eq_true] at this; exact this.2⟩
     have hbd0 := HBD3.out
     rw [join_cells0] at hbd0
     have HBD0 : Aside0 (Lib.IsBuilderF 116 5 wr.heap.size wr.heap.size (Lib.byteCells (joinT a1 x (M.take 0)).data.toList) w3) := ⟨.inr hbd0⟩
     clear hbd0 hM HBD3 hx2 hn
     obtain ⟨b, hb⟩ : ∃ b, wr.heap.size = b := ⟨_, rfl⟩
     rw [hb] at HBD0 HS3 HSW ⊢
     have HWB : Aside0 (w.heap.size ≤ b) := ⟨by have := HSW.out; omega⟩
     clear HBK HB1 HB2 HS2 HSW hb HB HI HN
     go_loopw [10, 65] (fun v10 v65 w4 => ∃ (j : Nat), v65 = .int .i64 (j : Int) ∧ Aside0 (j ≤ M.length) ∧ Aside0 (Lib.IsBuilderF 116 5 b b (Lib.byteCells (joinT a1 x (M.take j)).data.toList) w4) ∧ Aside0 (Below w.heap.size w w4) ∧ Aside0 (b ≤ w4.heap.size)) (fun _ v65 _ => (l0.length - 1) - (intOf v65).toNat)
     case atStart => exact ⟨0, rfl, ⟨Nat.zero_le _⟩, HBD0, HB3, HS3⟩
     case round =>
      clear HBD0 HB3 HS3
      obtain ⟨j, rfl, HJ, HBD, HB, HSB⟩ := hrel
      by_cases hlt : j < l0.length - 1
      ·have c3b0 : decide ((j : Int) < ((l0.length - 1 : Nat) : Int)) = true := decide_eq_true (by omega)
       have c3b1 : decide (j < l0.length - 1) = true := decide_eq_true hlt
       have c3b2 : (0 : Int) ≤ (j : Int) := Int.natCast_nonneg j
       obtain ⟨ad', e133, hx⟩ := Kd.at_string HR0.out ((j + 1 : Nat) : Int) (by omega) (by omega)
       obtain rfl : ad = ad' := by injection e133
       have hjM : j < M.length := by have := HM.out; omega
       have hrd : rdOf ByteArray.empty l0 ((j + 1 : Nat) : Int) = M[j] := by
        rw [HLM.out]
        unfold rdOf
        rw [Int.toNat_natCast, List.getD_cons_succ, List.getD_eq_getElem?_getD, List.getElem?_eq_getElem hjM]
        rfl
       have hsm : M[j].size ≤ 1000000 := of_decide_eq_true (List.all_eq_true.1 HSM.out _ (List.getElem_mem hjM))
       have hnext : joinT a1 x (M.take (j + 1)) = joinT a1 x (M.take j) ++ a1 ++ M[j] := by
        rw [List.take_add_one, List.getElem?_eq_getElem hjM]
        exact joinT_snoc a1 _ x _
       have hz := joinT_room a1 hs3' (M.take j) x hsx (small_take M j HSM.out) (by rw [List.length_take]; omega)
       rw [hrd, Int.toNat_natCast] at hx
       obtain ⟨s, hs⟩ : ∃ s, M[j] = s := ⟨_, rfl⟩
       rw [hs] at hx hsm hnext
       replace hx := (HB.out.cell (World.block_lt_of_cell? w _ hx)).trans hx
       have ha : ad.add (j + 1) = ⟨ad.block, ad.off + 1 + j, none⟩ := by
        have := add_field ad 0 (j + 1) (by omega)
        rw [Nat.zero_add, Addr.add_zero'] at this
        rw [this, Nat.add_assoc, Nat.add_comm 1]
       rw [ha] at hx
       have hxA : wr.cell? ((⟨ad.block, ad.off + 1, none⟩ : Addr).add j) = some (.string s) := by rw [Addr.add_lit]; exact hx
       have HNEXT := Aside0.mk hnext
       have e1 := wrap_nextJ j (by omega)
       have HL1 : Aside0 ((Lib.byteCells (joinT a1 x (M.take j)).data.toList).length + a1.size ≤ 140737488355328) := ⟨room_le _ _ hz (Nat.le_trans hs3' (by decide))⟩
       have HL2 : Aside0 ((Lib.byteCells (joinT a1 x (M.take j) ++ a1).data.toList).length + s.size ≤ 140737488355328) := ⟨room_two _ _ _ hz hs3' hsm⟩
       replace c3b2 := eq_true c3b2
       clear hrd hsm hnext hz hs ha
       go_wp2_with (first
        | (go_at_call 86; refine (writeString_at b b _ s _ HBD5.out HL2.out HS5.out).mono ?_; rintro e w6 ⟨rfl, hbd6, hB6⟩; rw [join_cells, ← HNEXT.out] at hbd6; have HBD6 : Aside0 (Lib.IsBuilderF 116 5 b b (Lib.byteCells (joinT a1 x (M.take (j + 1))).data.toList) w6) := ⟨.inr hbd6⟩; have HB6 := Aside0.mk (HB5.out.trans (hB6.mono HWB.out)); have HS6 := Aside0.mk (Nat.le_trans HS5.out hB6.size); clear hbd6 hB6)
        | (go_at_call 86; refine (writeString_at b b _ a1 _ HBD.out HL1.out HSB.out).mono ?_; rintro e w5 ⟨rfl, hbd5, hB5⟩; rw [join_cells] at hbd5; have HBD5 : Aside0 (Lib.IsBuilderF 116 5 b b (Lib.byteCells (joinT a1 x (M.take j) ++ a1).data.toList) w5) := ⟨.inr hbd5⟩; have HB5 := Aside0.mk (HB.out.trans (hB5.mono HWB.out)); have HS5 := Aside0.mk (Nat.le_trans HSB.out hB5.size); clear hbd5 hB5))
       go_roundw
       case rel => exact ⟨j + 1, (by first | exact congrArg (Value.int .i64) e1 | rfl), ⟨hjM⟩, HBD6, HB6, HS6⟩
       case measure => exact measure_nextJ (l0.length - 1) j _ (by first | exact e1 | rfl) hlt
      ·have c3b0 : decide ((j : Int) < ((l0.length - 1 : Nat) : Int)) = false := decide_eq_false (by omega)
       have c3b1 : decide (j < l0.length - 1) = false := decide_eq_false hlt
       have hI := HBD.out
       rw [List.take_of_length_le (by have := HM.out; have := HJ.out; omega)] at hI
       have HI2 := Aside0.mk hI
       clear hI HBD
       go_wp2_with (go_at_call 87; refine (Tryd.Builder_String_any_f b b _ _ HI2.out HSB.out).mono ?_; rintro e w7 ⟨rfl, _, hB7⟩)
       go_ret
       exact ⟨by rw [← HRES.out, HLM.out]; rfl, HB.out.trans (hB7.mono HWB.out)⟩
  ·obtain ⟨N, hN0, hNb⟩ : ∃ N : Nat, N = 0 ∧ N ≤ 100000000000 := ⟨0, rfl, by omega⟩
   subst hN0
   go_wp2
   go_loopw [5, 7, 41] (fun v5 v7 v41 wr => ∃ (i n : Nat), v5 = .int .i64 (n : Int) ∧ v41 = .int .i64 (i : Int) ∧ Aside0 (i ≤ l0.length) ∧ Aside0 (n ≤ 100000000000 + 1000000 * i) ∧ Aside0 (Below w.heap.size w wr)) (fun _ _ v41 _ => l0.length - (intOf v41).toNat)
   case atStart => exact ⟨0, 0, rfl, rfl, ⟨Nat.zero_le _⟩, ⟨by omega⟩, ⟨Below.refl _ _⟩⟩
   case round =>
    obtain ⟨i, n, rfl, rfl, HI, HN, HB⟩ := hrel
    by_cases hlt : i < l0.length
    ·have c3b0 : decide ((i : Int) < (l0.length : Int)) = true := decide_eq_true (by omega)
     have c3b1 : decide (i < l0.length) = true := decide_eq_true hlt
     have c3b2 : (0 : Int) ≤ (i : Int) := Int.natCast_nonneg i
     obtain ⟨ad', e133, hx⟩ := Kd.at_string HR0.out (i : Int) c3b2 (by omega)
     obtain rfl : ad = ad' := by injection e133
     replace hx := (HB.out.cell (World.block_lt_of_cell? w _ hx)).trans hx
     have hss : (rdOf ByteArray.empty l0 (i : Int)).size ≤ 1000000 := by
      have h1 : rdOf ByteArray.empty l0 (i : Int) = l0[i] := by
       unfold rdOf
       rw [Int.toNat_natCast, List.getD_eq_getElem?_getD, List.getElem?_eq_getElem hlt]
       rfl
      rw [h1]
      exact of_decide_eq_true (List.all_eq_true.1 HS.out _ (List.getElem_mem hlt))
     obtain ⟨s, hs⟩ : ∃ s, rdOf ByteArray.empty l0 (i : Int) = s := ⟨_, rfl⟩
     rw [hs] at hx hss
     rw [Int.toNat_natCast] at hx
     have hn := HN.out
     have hi5 := HS1.out
     have e1 := wrap_nextJ i (by omega)
     have hns : n + s.size ≤ 1000000000000000 := by omega
     have e2 := wrap_addJ n s.size hns
     have c4 := farJ n s.size hns
     have c4w := farJw n s.size hns
     have c4p := of_decide_eq_false c4
     have c4q := of_decide_eq_false c4w
     have HNN := Aside0.mk hn
     have HSS := Aside0.mk hss
     clear hn hss hns hi5
     replace c3b2 := eq_true c3b2
     clear hs
     go_wp2
     go_roundw
     case rel => exact ⟨i + 1, n + s.size, (by first | exact congrArg (Value.int .i64) e2 | rfl), (by first | exact congrArg (Value.int .i64) e1 | rfl), ⟨hlt⟩, ⟨by have := HNN.out; have := HSS.out; omega⟩, HB⟩
     case measure => exact measure_nextJ l0.length i _ (by first | exact e1 | rfl) hlt
    ·have c3b0 : decide ((i : Int) < (l0.length : Int)) = false := decide_eq_false (by omega)
     have c3b1 : decide (i < l0.length) = false := decide_eq_false hlt
     have hn : n ≤ 281474976710656 := by have := HN.out; have := HI.out; have := HS1.out; omega
     have hbk := World.alloc_heap_new wr (.cells #[.pointer none, .slice none 0 0] 116)
     have HBK := Aside0.mk hbk
     have HSW := Aside0.mk HB.out.size
     have HB1 := Aside0.mk (HB.out.alloc HB.out.size (.cells #[.pointer none, .slice none 0 0] 116))
     have hc1 : ¬ (c0 = 1) := by have := HC0.out; omega
     have hc2 : (1 : Int) ≤ (l0.length : Int) := by omega
     have hc3 : (l0.length : Int) ≤ (c0 : Int) := by have := HC0.out; omega
     clear hbk
     go_wp2_with (first
      | (go_at_call 85; refine (grow_fresh wr.heap.size wr.heap.size n _ (Nat.le_refl _) HBK.out (by rw [World.size_alloc]; omega) hn).mono ?_; rintro e w2 ⟨rfl, hbd, hB2⟩; have HB2 := Aside0.mk (HB1.out.trans (hB2.mono HSW.out)); have hx2 := (HB2.out.cell (World.block_lt_of_cell? w _ HX0.out)).trans HX0.out; have HS2 := Aside0.mk (Nat.le_trans (by rw [World.size_alloc]; omega : wr.heap.size ≤ (wr.alloc (.cells #[.pointer none, .slice none 0 0] 116)).heap.size) hB2.size); clear hB2)
      | (go_at_call 86; refine (writeString_at wr.heap.size wr.heap.size [] x _ hbd (by simp; omega) HS2.out).mono ?_; rintro e w3 ⟨rfl, hbd3, hB3⟩; have HB3 := Aside0.mk (HB2.out.trans (hB3.mono HSW.out)); have HS3 := Aside0.mk (Nat.le_trans HS2.out hB3.size); have HBD3 := Aside0.mk hbd3; clear hB3 hbd3 hbd))
     have hM : l0.length - 1 = M.length := by rw [HLM.out]; simp
     have HM := Aside0.mk hM
     have HSM : Aside0 (M.all smallS = true) := ⟨by have := HS.out; rw [HLM.out, List.all_cons, Bool.and_eq_true] at this; exact this.2⟩
     have hbd0 := HBD3.out
     rw [join_cells0] at hbd0
     have HBD0 : Aside0 (Lib.IsBuilderF 116 5 wr.heap.size wr.heap.size (Lib.byteCells (joinT a1 x (M.take 0)).data.toList) w3) := ⟨.inr hbd0⟩
     clear hbd0 hM HBD3 hx2 hn
     obtain ⟨b, hb⟩ : ∃ b, wr.heap.size = b := ⟨_, rfl⟩
     rw [hb] at HBD0 HS3 HSW ⊢
     have HWB : Aside0 (w.heap.size ≤ b) := ⟨by have := HSW.out; omega⟩
     clear HBK HB1 HB2 HS2 HSW hb HB HI HN
     go_loopw [10, 65] (fun v10 v65 w4 => ∃ (j : Nat), v65 = .int .i64 (j : Int) ∧ Aside0 (j ≤ M.length) ∧ Aside0 (Lib.IsBuilderF 116 5 b b (Lib.byteCells (joinT a1 x (M.take j)).data.toList) w4) ∧ Aside0 (Below w.heap.size w w4) ∧ Aside0 (b ≤ w4.heap.size)) (fun _ v65 _ => (l0.length - 1) - (intOf v65).toNat)
     case atStart => exact ⟨0, rfl, ⟨Nat.zero_le _⟩, HBD0, HB3, HS3⟩
     case round =>
      clear HBD0 HB3 HS3
      obtain ⟨j, rfl, HJ, HBD, HB, HSB⟩ := hrel
      by_cases hlt : j < l0.length - 1
      ·have c3b0 : decide ((j : Int) < ((l0.length - 1 : Nat) : Int)) = true := decide_eq_true (by omega)
       have c3b1 : decide (j < l0.length - 1) = true := decide_eq_true hlt
       have c3b2 : (0 : Int) ≤ (j : Int) := Int.natCast_nonneg j
       obtain ⟨ad', e133, hx⟩ := Kd.at_string HR0.out ((j + 1 : Nat) : Int) (by omega) (by omega)
       obtain rfl : ad = ad' := by injection e133
       have hjM : j < M.length := by have := HM.out; omega
       have hrd : rdOf ByteArray.empty l0 ((j + 1 : Nat) : Int) = M[j] := by
        rw [HLM.out]
        unfold rdOf
        rw [Int.toNat_natCast, List.getD_cons_succ, List.getD_eq_getElem?_getD, List.getElem?_eq_getElem hjM]
        rfl
       have hsm : M[j].size ≤ 1000000 := of_decide_eq_true (List.all_eq_true.1 HSM.out _ (List.getElem_mem hjM))
       have hnext : joinT a1 x (M.take (j + 1)) = joinT a1 x (M.take j) ++ a1 ++ M[j] := by
        rw [List.take_add_one, List.getElem?_eq_getElem hjM]
        exact joinT_snoc a1 _ x _
       have hz := joinT_room a1 hs3' (M.take j) x hsx (small_take M j HSM.out) (by rw [List.length_take]; omega)
       rw [hrd, Int.toNat_natCast] at hx
       obtain ⟨s, hs⟩ : ∃ s, M[j] = s := ⟨_, rfl⟩
       rw [hs] at hx hsm hnext
       replace hx := (HB.out.cell (World.block_lt_of_cell? w _ hx)).trans hx
       have ha : ad.add (j + 1) = ⟨ad.block, ad.off + 1 + j, none⟩ := by
        have := add_field ad 0 (j + 1) (by omega)
        rw [Nat.zero_add, Addr.add_zero'] at this
        rw [this, Nat.add_assoc, Nat.add_comm 1]
       rw [ha] at hx
       have hxA : wr.cell? ((⟨ad.block, ad.off + 1, none⟩ : Addr).add j) = some (.string s) := by rw [Addr.add_lit]; exact hx
       have HNEXT := Aside0.mk hnext
       have e1 := wrap_nextJ j (by omega)
       have HL1 : Aside0 ((Lib.byteCells (joinT a1 x (M.take j)).data.toList).length + a1.size ≤ 140737488355328) := ⟨room_le _ _ hz (Nat.le_trans hs3' (by decide))⟩
       have HL2 : Aside0 ((Lib.byteCells (joinT a1 x (M.take j) ++ a1).data.toList).length + s.size ≤ 140737488355328) := ⟨room_two _ _ _ hz hs3' hsm⟩
       replace c3b2 := eq_true c3b2
       clear hrd hsm hnext hz hs ha
       go_wp2_with (first
        | (go_at_call 86; refine (writeString_at b b _ s _ HBD5.out HL2.out HS5.out).mono ?_; rintro e w6 ⟨rfl, hbd6, hB6⟩; rw [join_cells, ← HNEXT.out] at hbd6; have HBD6 : Aside0 (Lib.IsBuilderF 116 5 b b (Lib.byteCells (joinT a1 x (M.take (j + 1))).data.toList) w6) := ⟨.inr hbd6⟩; have HB6 := Aside0.mk (HB5.out.trans (hB6.mono HWB.out)); have HS6 := Aside0.mk (Nat.le_trans HS5.out hB6.size); clear hbd6 hB6)
        | (go_at_call 86; refine (writeString_at b b _ a1 _ HBD.out HL1.out HSB.out).mono ?_; rintro e w5 ⟨rfl, hbd5, hB5⟩; rw [join_cells] at hbd5; have HBD5 : Aside0 (Lib.IsBuilderF 116 5 b b (Lib.byteCells (joinT a1 x (M.take j) ++ a1).data.toList) w5) := ⟨.inr hbd5⟩; have HB5 := Aside0.mk (HB.out.trans (hB5.mono HWB.out)); have HS5 := Aside0.mk (Nat.le_trans HSB.out hB5.size); clear hbd5 hB5))
       go_roundw
       case rel => exact ⟨j + 1, (by first | exact congrArg (Value.int .i64) e1 | rfl), ⟨hjM⟩, HBD6, HB6, HS6⟩
       case measure => exact measure_nextJ (l0.length - 1) j _ (by first | exact e1 | rfl) hlt
      ·have c3b0 : decide ((j : Int) < ((l0.length - 1 : Nat) : Int)) = false := decide_eq_false (by omega)
       have c3b1 : decide (j < l0.length - 1) = false := decide_eq_false hlt
       have hI := HBD.out
       rw [List.take_of_length_le (by have := HM.out; have := HJ.out; omega)] at hI
       have HI2 := Aside0.mk hI
       clear hI HBD
       go_wp2_with (go_at_call 87; refine (Tryd.Builder_String_any_f b b _ _ HI2.out HSB.out).mono ?_; rintro e w7 ⟨rfl, _, hB7⟩)
       go_ret
       exact ⟨by rw [← HRES.out, HLM.out]; rfl, HB.out.trans (hB7.mono HWB.out)⟩
end Go.Proofs.YthjhbhgfckaklaaDoor.P
