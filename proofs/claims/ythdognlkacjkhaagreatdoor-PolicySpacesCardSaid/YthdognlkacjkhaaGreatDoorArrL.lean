/-
  Addresses of 32 bits, as the program makes and reads them.
-/
import Derived.Laws.BitsLemmas
import Derived.Lib.EndianBits
import Derived.Test.YthdognlkacjkhaaGreatDoorM4
namespace Go.Proofs.YthdognlkacjkhaaGreatDoor.P
open Go.RowKit Go.Proofs.YthdognlkacjkhaaGreatDoorW.PrintWords Go.Proofs.YthdognlkacjkhaaGreatDoorW.PrintLast Go.Proofs.YthdognlkacjkhaaGreatDoorW.PrintMore
set_option linter.unusedVariables false
set_option linter.unusedSimpArgs false
def b4 (l : List Int) : Array Value := #[.int .u8 (byt l 0), .int .u8 (byt l 1), .int .u8 (byt l 2), .int .u8 (byt l 3)]
theorem join_step (n b : Int) (hb : 0 ≤ b ∧ b ≤ 255) : bits .or .u32 (n * 256 % 4294967296) (b % 4294967296) = (n * 256 % 4294967296 + b % 4294967296) % 4294967296 := by
  have h := bits_join .u32 32 (by decide) wraps_u32 8 (n * 256 % 4294967296) (b % 4294967296) (by omega) (by omega) (by omega) (by omega) (by omega) (by omega)
  rw [h]
  omega
set_option maxHeartbeats 2000000 in
set_option maxRecDepth 100000 in
theorem four_Of (l : List Int) (h : ∀ i, 0 ≤ byt l i ∧ byt l i ≤ 255) (w : World) : Calls Tryz.prog 95 #[.agg (b4 l)] w fun e w' => e = .returned (.int .u32 (fourN l 4)) ∧ Below w.heap.size w w' := by
  have HB := Aside0.mk (Below.refl w.heap.size w)
  have HA := Aside0.mk h
  clear h
  have x0 : ∀ w : World, (Instr.index 143 (.agg #[.int .u8 (byt l 0), .int .u8 (byt l 1), .int .u8 (byt l 2), .int .u8 (byt l 3)]) (.int .i64 0)).run Tryz.prog w = .ok (.int .u8 (byt l 0)) w := fun _ => by kernel_rfl
  have x1 : ∀ w : World, (Instr.index 143 (.agg #[.int .u8 (byt l 0), .int .u8 (byt l 1), .int .u8 (byt l 2), .int .u8 (byt l 3)]) (.int .i64 1)).run Tryz.prog w = .ok (.int .u8 (byt l 1)) w := fun _ => by kernel_rfl
  have x2 : ∀ w : World, (Instr.index 143 (.agg #[.int .u8 (byt l 0), .int .u8 (byt l 1), .int .u8 (byt l 2), .int .u8 (byt l 3)]) (.int .i64 2)).run Tryz.prog w = .ok (.int .u8 (byt l 2)) w := fun _ => by kernel_rfl
  have x3 : ∀ w : World, (Instr.index 143 (.agg #[.int .u8 (byt l 0), .int .u8 (byt l 1), .int .u8 (byt l 2), .int .u8 (byt l 3)]) (.int .i64 3)).run Tryz.prog w = .ok (.int .u8 (byt l 3)) w := fun _ => by kernel_rfl
  go_enter Tryz.func95, Tryz.ntmps95
  go_wp2_with (first
    | ((with_reducible refine gate_dst (N := 1) rfl ?_); refine box_event ?hg (N := 1) ?hd (cs := b4 l) (t := 143) ?hr ?_; (case hd => rfl); (case hg => rfl); (case hr => first | (go_simp; done) | (go_simp; rfl)); intro g1 hg w1 hbox hb; have h0 : w1.cell? ⟨g1, 0, none⟩ = some (.int .u8 (byt l 0)) := blk_cell hbox 0; have h1 : w1.cell? ⟨g1, 1, none⟩ = some (.int .u8 (byt l 1)) := blk_cell hbox 1; have h2 : w1.cell? ⟨g1, 2, none⟩ = some (.int .u8 (byt l 2)) := blk_cell hbox 2; have h3 : w1.cell? ⟨g1, 3, none⟩ = some (.int .u8 (byt l 3)) := blk_cell hbox 3; replace HB := Aside0.mk (below_step (bel_later HB.out) hb); clear hb hg hbox))
  go_loopw [3, 7] (fun v3 v7 wr => ∃ i : Nat, v3 = .int .u32 (fourN l i) ∧ v7 = .int .i64 (i : Int) ∧ Aside0 (i ≤ 4) ∧ Aside0 (wr = w1)) (fun _ v7 _ => 4 - (intOf v7).toNat)
  case atStart => exact ⟨0, rfl, rfl, ⟨by omega⟩, ⟨rfl⟩⟩
  case round =>
    obtain ⟨i, rfl, rfl, HI, HE⟩ := hrel
    obtain rfl := HE.out
    have hi3 : i = 0 ∨ i = 1 ∨ i = 2 ∨ i = 3 ∨ i = 4 := by have := HI.out; omega
    rcases hi3 with rfl | rfl | rfl | rfl | rfl
    · have HF := Aside0.mk (show fourN l 1 = (fourN l 0 * 256 % 4294967296 + byt l 0 % 4294967296) % 4294967296 from rfl)
      have hj := join_step (fourN l 0) (byt l 0) (HA.out 0)
      rw [← HF.out] at hj
      generalize fourN l 0 = n at hj ⊢
      generalize hm0 : fourN l 1 = m at hj HF ⊢
      have HM := Aside0.mk hm0
      clear HF hm0
      go_wp2
      go_roundw
      case rel => exact ⟨1, by rw [HM.out], rfl, ⟨by decide⟩, ⟨trivial⟩⟩
      case measure => decide
    · have HF := Aside0.mk (show fourN l 2 = (fourN l 1 * 256 % 4294967296 + byt l 1 % 4294967296) % 4294967296 from rfl)
      have hj := join_step (fourN l 1) (byt l 1) (HA.out 1)
      rw [← HF.out] at hj
      generalize fourN l 1 = n at hj ⊢
      generalize hm1 : fourN l 2 = m at hj HF ⊢
      have HM := Aside0.mk hm1
      clear HF hm1
      go_wp2
      go_roundw
      case rel => exact ⟨2, by rw [HM.out], rfl, ⟨by decide⟩, ⟨trivial⟩⟩
      case measure => decide
    · have HF := Aside0.mk (show fourN l 3 = (fourN l 2 * 256 % 4294967296 + byt l 2 % 4294967296) % 4294967296 from rfl)
      have hj := join_step (fourN l 2) (byt l 2) (HA.out 2)
      rw [← HF.out] at hj
      generalize fourN l 2 = n at hj ⊢
      generalize hm2 : fourN l 3 = m at hj HF ⊢
      have HM := Aside0.mk hm2
      clear HF hm2
      go_wp2
      go_roundw
      case rel => exact ⟨3, by rw [HM.out], rfl, ⟨by decide⟩, ⟨trivial⟩⟩
      case measure => decide
    · have HF := Aside0.mk (show fourN l 4 = (fourN l 3 * 256 % 4294967296 + byt l 3 % 4294967296) % 4294967296 from rfl)
      have hj := join_step (fourN l 3) (byt l 3) (HA.out 3)
      rw [← HF.out] at hj
      generalize fourN l 3 = n at hj ⊢
      generalize hm3 : fourN l 4 = m at hj HF ⊢
      have HM := Aside0.mk hm3
      clear HF hm3
      go_wp2
      go_roundw
      case rel => exact ⟨4, by rw [HM.out], rfl, ⟨by decide⟩, ⟨trivial⟩⟩
      case measure => decide
    · go_wp2
      go_ret
      exact ⟨rfl, HB.out⟩
set_option maxHeartbeats 2000000 in
set_option maxRecDepth 100000 in
theorem addr_Four (a : Ad) (ha : a.ok) (w : World) : Calls Tryz.prog 102 #[.agg (eA a)] w fun e w' => e = .returned (.int .u32 (fourN a.bs 4)) ∧ Below w.heap.size w w' := by
  have HB := Aside0.mk (Below.refl w.heap.size w)
  have HA := Aside0.mk ha
  clear ha
  have hat : ∀ (w : World) (g : Nat), (Instr.arrayAt 143 (.slice (some ⟨g, 1, none⟩) 4 16)).run Tryz.prog w = .ok (.pointer (some ⟨g, 1, none⟩)) w := fun _ _ => by kernel_rfl
  go_enter Tryz.func102, Tryz.ntmps102
  go_wp2_with (first
    | ((with_reducible refine gate_dst (N := 1) rfl ?_); refine box_event ?hg (N := 1) ?hd (cs := eA a) (t := 30) ?hr ?_; (case hd => rfl); (case hg => rfl); (case hr => first | (go_simp; done) | (go_simp; rfl)); intro g1 hg w1 hbox hb; have h0 : w1.cell? ⟨g1, 1, none⟩ = some (.int .u8 (byt a.bs 0)) := (blk_cell hbox 1).trans (eA_byte HA.out 0 (by decide)); have h1 : w1.cell? ⟨g1, 2, none⟩ = some (.int .u8 (byt a.bs 1)) := (blk_cell hbox 2).trans (eA_byte HA.out 1 (by decide)); have h2 : w1.cell? ⟨g1, 3, none⟩ = some (.int .u8 (byt a.bs 2)) := (blk_cell hbox 3).trans (eA_byte HA.out 2 (by decide)); have h3 : w1.cell? ⟨g1, 4, none⟩ = some (.int .u8 (byt a.bs 3)) := (blk_cell hbox 4).trans (eA_byte HA.out 3 (by decide)); replace HB := Aside0.mk (below_step (bel_later HB.out) hb); clear hb hg hbox)
    | (go_at_call 95; refine (four_Of a.bs (byt_range HA.out) _).mono ?_; rintro e w2 ⟨rfl, hb⟩; have HB2 := Aside0.mk (below_step (bel_later HB.out) hb); clear hb))
  go_ret
  exact ⟨rfl, HB2.out⟩
/-- The bytes of a number, the first one first: so many of them, the rest 0. -/
def by4 (n : Int) : Nat → List Int
  | 0 => [0, 0, 0, 0]
  | 1 => [n / 16777216 % 256, 0, 0, 0]
  | 2 => [n / 16777216 % 256, n / 65536 % 256, 0, 0]
  | 3 => [n / 16777216 % 256, n / 65536 % 256, n / 256 % 256, 0]
  | _ => [n / 16777216 % 256, n / 65536 % 256, n / 256 % 256, n % 256]
def b4L (l : List Int) : Array Value := (l.map (Value.int .u8)).toArray
theorem b4L_one (l : List Int) : (b4L l).all (·.oneCell') = true := by
  unfold b4L
  rw [Array.all_eq_true_iff_forall_mem]
  intro v hv
  simp only [List.mem_toArray, List.mem_map] at hv
  obtain ⟨x, _, rfl⟩ := hv
  rfl
theorem infoB4 (n : Int) (k : Nat) (hk : k ≤ 4) : (Tryz.prog.info? 143).map (·.size) = some (b4L (by4 n k)).size := by
  have h : (Tryz.prog.info? 143).map (·.size) = some 4 := by kernel_rfl
  rw [h]
  have hi3 : k = 0 ∨ k = 1 ∨ k = 2 ∨ k = 3 ∨ k = 4 := by omega
  rcases hi3 with rfl | rfl | rfl | rfl | rfl <;> rfl
set_option maxHeartbeats 2000000 in
set_option maxRecDepth 100000 in
theorem four_Bytes (n : Int) (w : World) : Calls Tryz.prog 96 #[.int .u32 n] w fun e w' => e = .returned (.agg (b4L (by4 n 4))) ∧ Below w.heap.size w w' := by
  have HB := Aside0.mk (Below.refl w.heap.size w)
  go_enter Tryz.func96, Tryz.ntmps96
  go_wp2_with (first
    | ((with_reducible refine gate_dst (N := 2) rfl ?_); refine box_event ?hg (N := 2) ?hd (cs := b4L (by4 n 0)) (t := 143) ?hr ?_; (case hd => rfl); (case hg => rfl); (case hr => first | (go_simp; done) | (go_simp; rfl)); intro g2 hg w2 hbox hb; have HX := Aside0.mk hbox; have HG2 := Aside0.mk (show w.heap.size ≤ g2 by rw [hg]; exact below_size (bel_later HB.out)); replace HB := Aside0.mk (below_step (bel_later HB.out) hb); clear hb hg hbox)
    | ((with_reducible refine gate_dst (N := 3) rfl ?_); refine box_event ?hg (N := 3) ?hd (cs := b4L (by4 n 0)) (t := 143) ?hr ?_; (case hd => rfl); (case hg => rfl); (case hr => first | (go_simp; done) | (go_simp; rfl)); intro g3 hg w3 hbox hb; have HY := Aside0.mk hbox; have HN := Aside0.mk (show g2 ≠ g3 by rw [hg]; exact Nat.ne_of_lt (blk_lt (blk_later HX.out))); have HG3 := Aside0.mk (show w.heap.size ≤ g3 by rw [hg]; exact below_size (bel_later HB.out)); replace HX := Aside0.mk (blk_below (blk_later HX.out) hb); replace HB := Aside0.mk (below_step (bel_later HB.out) hb); clear hb hg hbox))
  go_loopw [5] (fun v5 wr => ∃ i : Nat, v5 = .int .i64 (i : Int) ∧ Aside0 (i ≤ 4) ∧ Aside0 (wr.heap[g2]? = some (.cells (b4L (by4 n 0)) 143 (0, 0)) ∧ wr.heap[g3]? = some (.cells (b4L (by4 n i)) 143 (0, 0)) ∧ Below w.heap.size w wr)) (fun v5 _ => 4 - (intOf v5).toNat)
  case atStart => exact ⟨0, rfl, ⟨by omega⟩, ⟨HX.out, HY.out, HB.out⟩⟩
  case round =>
    obtain ⟨i, rfl, HI, HE⟩ := hrel
    clear HX HY HB
    have HX := Aside0.mk HE.out.1
    have HY := Aside0.mk HE.out.2.1
    have HB := Aside0.mk HE.out.2.2
    clear HE
    have hi3 : i = 0 ∨ i = 1 ∨ i = 2 ∨ i = 3 ∨ i = 4 := by have := HI.out; omega
    rcases hi3 with rfl | rfl | rfl | rfl | rfl
    · have hx0 : wr.cell? ⟨g3, 0, none⟩ = some (.int .u8 0) := blk_cell HY.out 0
      have hfz := blk_frozen HY.out 0
      go_wp2
      go_roundw
      case rel => exact ⟨1, rfl, ⟨by decide⟩, ⟨(Below.heap_setCell wr _ _ _ HN.out).trans HX.out, blk_put HY.out 0 (.int .u8 (by4 n 1)[0]!) rfl, HB.out.setCell HG3.out _⟩⟩
      case measure => decide
    · have hx1 : wr.cell? ⟨g3, 1, none⟩ = some (.int .u8 0) := blk_cell HY.out 1
      have hfz := blk_frozen HY.out 1
      go_wp2
      go_roundw
      case rel => exact ⟨2, rfl, ⟨by decide⟩, ⟨(Below.heap_setCell wr _ _ _ HN.out).trans HX.out, blk_put HY.out 1 (.int .u8 (by4 n 2)[1]!) rfl, HB.out.setCell HG3.out _⟩⟩
      case measure => decide
    · have hx2 : wr.cell? ⟨g3, 2, none⟩ = some (.int .u8 0) := blk_cell HY.out 2
      have hfz := blk_frozen HY.out 2
      go_wp2
      go_roundw
      case rel => exact ⟨3, rfl, ⟨by decide⟩, ⟨(Below.heap_setCell wr _ _ _ HN.out).trans HX.out, blk_put HY.out 2 (.int .u8 (by4 n 3)[2]!) rfl, HB.out.setCell HG3.out _⟩⟩
      case measure => decide
    · have hx3 : wr.cell? ⟨g3, 3, none⟩ = some (.int .u8 0) := blk_cell HY.out 3
      have hfz := blk_frozen HY.out 3
      go_wp2
      go_roundw
      case rel => exact ⟨4, rfl, ⟨by decide⟩, ⟨(Below.heap_setCell wr _ _ _ HN.out).trans HX.out, blk_put HY.out 3 (.int .u8 (by4 n 4)[3]!) rfl, HB.out.setCell HG3.out _⟩⟩
      case measure => decide
    · go_wp2_with (first
        | ((with_reducible refine gate_dst (N := 17) rfl ?_); refine wpList_load_row rfl 143 (.tmp 3) rfl g3 rfl 143 (b4L (by4 n 4)) (0, 0) _ HY.out Tryz.underlying143 rfl (infoB4 n 4 (by decide)) ?_)
        | ((with_reducible refine gate_store (t := 143) (p := 2) rfl ?_); refine wpList_store_row rfl 143 (.tmp 2) (.tmp 17) rfl g2 (b4L (by4 n 4)) rfl rfl 143 (b4L (by4 n 0)) HX.out (infoB4 n 4 (by decide)) rfl (b4L_one _) ?_; have HX6 := Aside0.mk (row_new (cells := b4L (by4 n 4)) HX.out); have HB6 := Aside0.mk (below_row HB.out HG2.out (b4L (by4 n 4)))))
      refine bodyPost_ret (results_cell_row rfl _ _ g2 143 (b4L (by4 n 4)) (0, 0) _ rfl HX6.out Tryz.underlying143 rfl (infoB4 n 4 (by decide))) rfl ?_
      exact ⟨rfl, HB6.out⟩
section
variable {P : Program}
/-- The operation 'copy', where its run is known by an equation. -/
theorem wp_copy_runA (w : World) {o : Oper} {a : Act} {K : Act → World → Prop} {Q : Exit → Act → World → Prop} (d s : Operand) (t t' : TypeId)
    (ho : o.op = .call { callee := .builtin .copy, args := #[d, s], argTypes := #[t, t'] }) (v u : Value) (hd : a.eval d = v) (hs : a.eval s = u) {v' : Value} {w' : World}
    (hr : (Builtin.copy_ #[t, t'] o.type #[v, u]).run P w = .ok v' w') (h : K (a.put o.dst v') w') : o.wp P a w K Q := by
  unfold Oper.wp execOp
  simp only [ho, resolve, invoke, builtin, Sem.run_bind, Sem.run_pure, Result.andThen_ok, List.map_toArray, List.map_cons, List.map_nil, hd, hs, hr]
  exact h
end
/-- An address of 32 bits. -/
def of4N (n : Int) : Ad := ⟨4, by4 n 4 ++ [0, 0, 0, 0, 0, 0, 0, 0, 0, 0, 0, 0]⟩
theorem of4_eq (n : Int) (h0 : 0 ≤ n) (h1 : n < 4294967296) : of4 n = of4N n := by
  have e0 : Int.tmod n 256 % 256 = n % 256 := by rw [Int.tmod_eq_emod_of_nonneg h0]; omega
  have d0 : Int.tdiv n 256 % 4294967296 = n / 256 := by rw [Int.tdiv_eq_ediv_of_nonneg h0]; omega
  have e1 : Int.tmod (n / 256) 256 % 256 = n / 256 % 256 := by rw [Int.tmod_eq_emod_of_nonneg (by omega)]; omega
  have d1 : Int.tdiv (n / 256) 256 % 4294967296 = n / 65536 := by rw [Int.tdiv_eq_ediv_of_nonneg (by omega)]; omega
  have e2 : Int.tmod (n / 65536) 256 % 256 = n / 65536 % 256 := by rw [Int.tmod_eq_emod_of_nonneg (by omega)]; omega
  have d2 : Int.tdiv (n / 65536) 256 % 4294967296 = n / 16777216 := by rw [Int.tdiv_eq_ediv_of_nonneg (by omega)]; omega
  have e3 : Int.tmod (n / 16777216) 256 % 256 = n / 16777216 % 256 := by rw [Int.tmod_eq_emod_of_nonneg (by omega)]; omega
  unfold of4 of4N
  simp only [of4L, e0, d0, e1, d1, e2, d2, e3, by4]
  rfl
set_option maxHeartbeats 4000000 in
set_option maxRecDepth 100000 in
theorem addr_Of4 (n : Int) (h0 : 0 ≤ n) (h1 : n < 4294967296) (w : World) : Calls Tryz.prog 64 #[.int .u32 n] w fun e w' => e = .returned (.agg (eA (of4 n))) ∧ Below w.heap.size w w' := by
  have HB := Aside0.mk (Below.refl w.heap.size w)
  rw [of4_eq n h0 h1]
  have HO := Aside0.mk (show (of4N n).ok by rw [← of4_eq n h0 h1]; exact ok_of4 n)
  clear h0 h1
  go_enter Tryz.func64, Tryz.ntmps64
  go_wp2_with (first
    | ((with_reducible refine gate_dst (N := 2) rfl ?_); refine box_event ?hg (N := 2) ?hd (cs := eA noA) (t := 30) ?hr ?_; (case hd => rfl); (case hg => rfl); (case hr => first | (go_simp; done) | (go_simp; rfl)); intro g2 hg w2 hbox hb; have HX := Aside0.mk hbox; have HG2 := Aside0.mk (show w.heap.size ≤ g2 by rw [hg]; exact below_size (bel_later HB.out)); replace HB := Aside0.mk (below_step (bel_later HB.out) hb); clear hb hg hbox)
    | ((with_reducible refine gate_dst (N := 5) rfl ?_); refine Kd.event_run (v := .agg (eA ⟨4, zeros16⟩)) rfl ?hr ?_; (case hr => first | (go_simp; done) | (go_simp; rfl)))
    | ((with_reducible refine gate_dst (N := 3) rfl ?_); refine box_event ?hg (N := 3) ?hd (cs := eA noA) (t := 30) ?hr ?_; (case hd => rfl); (case hg => rfl); (case hr => first | (go_simp; done) | (go_simp; rfl)); intro g3 hg w3 hbox hb; have HY := Aside0.mk hbox; have HN := Aside0.mk (show g2 ≠ g3 by rw [hg]; exact Nat.ne_of_lt (blk_lt (blk_later HX.out))); have HG3 := Aside0.mk (show w.heap.size ≤ g3 by rw [hg]; exact below_size (bel_later HB.out)); replace HX := Aside0.mk (blk_below (blk_later HX.out) hb); replace HB := Aside0.mk (below_step (bel_later HB.out) hb); clear hb hg hbox)
    | ((with_reducible refine gate_store (t := 30) (p := 3) rfl ?_); refine wpList_store_row rfl 30 (.tmp 3) (.tmp 5) rfl g3 (eA ⟨4, zeros16⟩) rfl rfl 30 (eA noA) HY.out infoA rfl (eA_one _) ?_; replace HX := Aside0.mk ((row_far (cells := eA ⟨4, zeros16⟩) HN.out).trans HX.out); replace HY := Aside0.mk (row_new (cells := eA ⟨4, zeros16⟩) HY.out); replace HB := Aside0.mk (below_row HB.out HG3.out (eA ⟨4, zeros16⟩)); generalize w3.setRow g3 (eA ⟨4, zeros16⟩) = w4 at HX HY HB ⊢)
    | (go_at_call 96; refine (four_Bytes n w4).mono ?_; rintro e w5 ⟨rfl, hb⟩; replace HX := Aside0.mk (blk_below HX.out hb); replace HY := Aside0.mk (blk_below HY.out hb); replace HB := Aside0.mk (below_step HB.out hb); clear hb)
    | ((with_reducible refine gate_dst (N := 4) rfl ?_); refine box_event ?hg (N := 4) ?hd (cs := b4L (by4 n 0)) (t := 143) ?hr ?_; (case hd => rfl); (case hg => rfl); (case hr => first | (go_simp; done) | (go_simp; rfl)); intro g4 hg w6 hbox hb; have HZ := Aside0.mk hbox; have HN4 := Aside0.mk (show g2 ≠ g4 ∧ g3 ≠ g4 by rw [hg]; exact ⟨Nat.ne_of_lt (blk_lt (blk_later HX.out)), Nat.ne_of_lt (blk_lt (blk_later HY.out))⟩); have HG4 := Aside0.mk (show w.heap.size ≤ g4 by rw [hg]; exact below_size (bel_later HB.out)); replace HX := Aside0.mk (blk_below (blk_later HX.out) hb); replace HY := Aside0.mk (blk_below (blk_later HY.out) hb); replace HB := Aside0.mk (below_step (bel_later HB.out) hb); clear hb hg hbox)
    | ((with_reducible refine gate_store (t := 143) (p := 4) rfl ?_); refine wpList_store_row rfl 143 (.tmp 4) (.tmp 7) rfl g4 (b4L (by4 n 4)) rfl rfl 143 (b4L (by4 n 0)) HZ.out (infoB4 n 4 (by decide)) rfl (b4L_one _) ?_; replace HX := Aside0.mk ((row_far (cells := b4L (by4 n 4)) HN4.out.1).trans HX.out); replace HY := Aside0.mk ((row_far (cells := b4L (by4 n 4)) HN4.out.2).trans HY.out); replace HZ := Aside0.mk (row_new (cells := b4L (by4 n 4)) HZ.out); replace HB := Aside0.mk (below_row HB.out HG4.out (b4L (by4 n 4))); generalize w6.setRow g4 (b4L (by4 n 4)) = w7 at HX HY HZ HB ⊢))
  obtain ⟨S, hS⟩ : ∃ S : World → Prop, S = fun _ => True := ⟨_, rfl⟩
  have HS := Aside0.mk (show ∀ x : World, S x by intro x; rw [hS]; trivial)
  clear hS
  have s0 := HS.out w7.drew
  (try simp only [Act.put, List.getElem_toArray, List.getElem_cons_succ, List.getElem_cons_zero, List.setIfInBounds_toArray, List.set_cons_zero, List.set_cons_succ])
  refine wp_region_held_drew (S := S) (by kernel_rfl) s0 (fun _ => ?_)
  refine wpAnyH_take (i := 0) (v := .pointer (some ⟨g3, 1, none⟩)) rfl (by kernel_rfl) (by kernel_rfl) (by kernel_rfl) (fun _ _ _ h => h) (Or.inl ⟨by kernel_rfl, fun w' h => by first | (go_simp; done) | (go_simp; rfl)⟩) s0 ?_
  (try simp only [Act.put, List.getElem_toArray, List.getElem_cons_succ, List.getElem_cons_zero, List.setIfInBounds_toArray, List.set_cons_zero, List.set_cons_succ])
  refine wpAnyH_take (i := 1) (v := .slice (some ⟨g3, 1, none⟩) 16 16) rfl (by kernel_rfl) (by kernel_rfl) (by kernel_rfl) (fun _ _ _ h => h) (Or.inl ⟨by kernel_rfl, fun w' h => by first | (go_simp; done) | (go_simp; rfl)⟩) s0 ?_
  (try simp only [Act.put, List.getElem_toArray, List.getElem_cons_succ, List.getElem_cons_zero, List.setIfInBounds_toArray, List.set_cons_zero, List.set_cons_succ])
  refine wpAnyH_take (i := 2) (v := .slice (some ⟨g4, 0, none⟩) 4 4) rfl (by kernel_rfl) (by kernel_rfl) (by kernel_rfl) (fun _ _ _ h => h) (Or.inl ⟨by kernel_rfl, fun w' h => by first | (go_simp; done) | (go_simp; rfl)⟩) s0 ?_
  (try simp only [Act.put, List.getElem_toArray, List.getElem_cons_succ, List.getElem_cons_zero, List.setIfInBounds_toArray, List.set_cons_zero, List.set_cons_succ])
  have HX8 := Aside0.mk (blk_later (b := w7.drew) HX.out)
  have HY8 := Aside0.mk (blk_later (b := w7.drew) HY.out)
  have HZ8 := Aside0.mk (blk_later (b := w7.drew) HZ.out)
  have HB8 := Aside0.mk (bel_later (b := w7.drew) HB.out)
  have hcp := Aside0.mk (run_copy_row (P := Tryz.prog) w7.drew 102 102 3 5 g3 1 16 16 ⟨g4, 0, none⟩ 4 4 (eA ⟨4, zeros16⟩) 30 ((by4 n 4).map (Value.int .u8)) Tryz.underlying102 (by kernel_rfl) HY8.out rfl (fun j v hv => by rw [Addr.add_mid, cell_of_row _ g4 (0 + j) (b4L (by4 n 4)) _ (0, 0) HZ8.out, Nat.zero_add]; unfold b4L; rw [List.getElem?_toArray]; exact hv) (by show 1 + 4 ≤ (eA ⟨4, zeros16⟩).size; rw [eA_size (ok_zeros 4)]; decide) (fun v hv => by simp only [List.mem_map] at hv; obtain ⟨x, _, rfl⟩ := hv; rfl))
  have HW := Aside0.mk (show ((eA ⟨4, zeros16⟩).toList.take 1 ++ (by4 n 4).map (Value.int .u8) ++ (eA ⟨4, zeros16⟩).toList.drop (1 + ((by4 n 4).map (Value.int .u8)).length)).toArray = eA (of4N n) from rfl)
  refine held_step (i := 3) (by kernel_rfl) rfl (by kernel_rfl) (fun K hK => ?_)
  refine wp_copy_runA w7.drew (.tmp 9) (.tmp 10) 102 102 rfl _ _ rfl rfl hcp.out ?_
  rw [HW.out]
  have HX9 := Aside0.mk ((row_far (cells := eA (of4N n)) HN.out).trans HX8.out)
  have HY9 := Aside0.mk (row_new (cells := eA (of4N n)) HY8.out)
  have HB9 := Aside0.mk (below_row HB8.out HG3.out (eA (of4N n)))
  refine hK.out _ _ (HS.out _) ?_
  clear hK K hcp HW
  (try simp only [Act.put, List.getElem_toArray, List.getElem_cons_succ, List.getElem_cons_zero, List.setIfInBounds_toArray, List.set_cons_zero, List.set_cons_succ])
  refine wpAnyH_done (by kernel_rfl) ?_ _
  generalize w7.drew.setRow g3 (eA (of4N n)) = w9 at HX9 HY9 HB9 ⊢
  go_wp2_with (first
    | ((with_reducible refine gate_dst (N := 12) rfl ?_); refine wpList_load_row rfl 30 (.tmp 3) rfl g3 rfl 30 (eA (of4N n)) (0, 0) _ HY9.out Tryz.underlying30 rfl (infoE HO.out) ?_)
    | ((with_reducible refine gate_store (t := 30) (p := 2) rfl ?_); refine wpList_store_row rfl 30 (.tmp 2) (.tmp 12) rfl g2 (eA (of4N n)) rfl rfl 30 (eA noA) HX9.out (infoE HO.out) ((eA_size ok_noA).trans (eA_size HO.out).symm) (eA_one _) ?_; have HX10 := Aside0.mk (row_new (cells := eA (of4N n)) HX9.out); have HB10 := Aside0.mk (below_row HB9.out HG2.out (eA (of4N n)))))
  refine bodyPost_ret (results_cell_row rfl _ _ g2 30 (eA (of4N n)) (0, 0) _ rfl HX10.out Tryz.underlying30 rfl (infoE HO.out)) rfl ?_
  exact ⟨rfl, HB10.out⟩
end Go.Proofs.YthdognlkacjkhaaGreatDoor.P
