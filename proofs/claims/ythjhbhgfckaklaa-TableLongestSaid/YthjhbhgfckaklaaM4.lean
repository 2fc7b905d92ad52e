/-
  Texts of the proof, put together.
-/
import Derived.Laws.BitsLemmas
import Derived.Lib.EndianBits
import Derived.Test.YthjhbhgfckaklaaM3
import Derived.DeepKeys
section
namespace Go.Proofs.Ythjhbhgfckaklaa.P
open Go.RowKit Go.Proofs.YthjhbhgfckaklaaW.PrintWords Go.Proofs.YthjhbhgfckaklaaW.PrintLast Go.Proofs.YthjhbhgfckaklaaW.PrintMore
set_option linter.unusedVariables false
set_option linter.unusedSimpArgs false
def b4 (l : List Int) : Array Value := #[.int .u8 (byt l 0), .int .u8 (byt l 1), .int .u8 (byt l 2), .int .u8 (byt l 3)]
theorem join_step (n b : Int) (hb : 0 ≤ b ∧ b ≤ 255) : bits .or .u32 (n * 256 % 4294967296) (b % 4294967296) = (n * 256 % 4294967296 + b % 4294967296) % 4294967296 := by
  have h := bits_join .u32 32 (by decide) wraps_u32 8 (n * 256 % 4294967296) (b % 4294967296) (by omega) (by omega) (by omega) (by omega) (by omega) (by omega)
  rw [h]
  omega
set_option maxHeartbeats 2000000 in
set_option maxRecDepth 100000 in
theorem four_Of (l : List Int) (h : ∀ i, 0 ≤ byt l i ∧ byt l i ≤ 255) (w : World) : Calls Try.prog 91 #[.agg (b4 l)] w fun e w' => e = .returned (.int .u32 (fourN l 4)) ∧ Below w.heap.size w w' := by
  have HB := Aside0.mk (Below.refl w.heap.size w)
  have HA := Aside0.mk h
  clear h
  have x0 : ∀ w : World, (Instr.index 141 (.agg #[.int .u8 (byt l 0), .int .u8 (byt l 1), .int .u8 (byt l 2), .int .u8 (byt l 3)]) (.int .i64 0)).run Try.prog w = .ok (.int .u8 (byt l 0)) w := fun _ => by kernel_rfl
  have x1 : ∀ w : World, (Instr.index 141 (.agg #[.int .u8 (byt l 0), .int .u8 (byt l 1), .int .u8 (byt l 2), .int .u8 (byt l 3)]) (.int .i64 1)).run Try.prog w = .ok (.int .u8 (byt l 1)) w := fun _ => by kernel_rfl
  have x2 : ∀ w : World, (Instr.index 141 (.agg #[.int .u8 (byt l 0), .int .u8 (byt l 1), .int .u8 (byt l 2), .int .u8 (byt l 3)]) (.int .i64 2)).run Try.prog w = .ok (.int .u8 (byt l 2)) w := fun _ => by kernel_rfl
  have x3 : ∀ w : World, (Instr.index 141 (.agg #[.int .u8 (byt l 0), .int .u8 (byt l 1), .int .u8 (byt l 2), .int .u8 (byt l 3)]) (.int .i64 3)).run Try.prog w = .ok (.int .u8 (byt l 3)) w := fun _ => by kernel_rfl
  go_enter Try.func91, Try.ntmps91
  go_wp2_with (first
    | ((with_reducible refine gate_dst (N := 1) rfl ?_); refine box_event ?hg (N := 1) ?hd (cs := b4 l) (t := 141) ?hr ?_; (case hd => rfl); (case hg => rfl); (case hr => first | (go_simp; done) | (go_simp; rfl)); intro g1 hg w1 hbox hb; have h0 : w1.cell? ⟨g1, 0, none⟩ = some (.int .u8 (byt l 0)) := blk_cell hbox 0; have h1 : w1.cell? ⟨g1, 1, none⟩ = some (.int .u8 (byt l 1)) := blk_cell hbox 1; have h2 : w1.cell? ⟨g1, 2, none⟩ = some (.int .u8 (byt l 2)) := blk_cell hbox 2; have h3 : w1.cell? ⟨g1, 3, none⟩ = some (.int .u8 (byt l 3)) := blk_cell hbox 3; replace HB := Aside0.mk (below_step (bel_later HB.out) hb); clear hb hg hbox))
  go_loopw [3, 7] (fun v3 v7 wr => ∃ i : Nat, v3 = .int .u32 (fourN l i) ∧ v7 = .int .i64 (i : Int) ∧ Aside0 (i ≤ 4) ∧ Aside0 (wr = w1)) (fun _ v7 _ => 4 - (intOf v7).toNat)
  case atStart => exact ⟨0, rfl, rfl, ⟨by omega⟩, ⟨rfl⟩⟩
  case round =>
    obtain ⟨i, rfl, rfl, HI, HE⟩ := hrel
    obtain rfl := HE.out
    have hi3 : i = 0 ∨ i = 1 ∨ i = 2 ∨ i = 3 ∨ i = 4 := by have := HI.out; omega
    rcases hi3 with rfl | rfl | rfl | rfl | rfl
    · have HF := Aside0.mk (show fourN l 1 = (fourN l 0 * 256 % 4294967296 + byt l 0 % 4294967296) % 4294967296 from rfl)
      have hj := join_step (fourN l 0) (byt l 0) (HA.out 0)
      rw [← HF.out] at hj
      generalize fourN l 0 = n at hj ⊢
      generalize hm0 : fourN l 1 = m at hj HF ⊢
      have HM := Aside0.mk hm0
      clear HF hm0
      go_wp2
      go_roundw
      case rel => exact ⟨1, by rw [HM.out], rfl, ⟨by decide⟩, ⟨trivial⟩⟩
      case measure => decide
    · have HF := Aside0.mk (show fourN l 2 = (fourN l 1 * 256 % 4294967296 + byt l 1 % 4294967296) % 4294967296 from rfl)
      have hj := join_step (fourN l 1) (byt l 1) (HA.out 1)
      rw [← HF.out] at hj
      generalize fourN l 1 = n at hj ⊢
      generalize hm1 : fourN l 2 = m at hj HF ⊢
      have HM := Aside0.mk hm1
      clear HF hm1
      go_wp2
      go_roundw
      case rel => exact ⟨2, by rw [HM.out], rfl, ⟨by decide⟩, ⟨trivial⟩⟩
      case measure => decide
    · have HF := Aside0.mk (show fourN l 3 = (fourN l 2 * 256 % 4294967296 + byt l 2 % 4294967296) % 4294967296 from rfl)
      have hj := join_step (fourN l 2) (byt l 2) (HA.out 2)
      rw [← HF.out] at hj
      generalize fourN l 2 = n at hj ⊢
      generalize hm2 : fourN l 3 = m at hj HF ⊢
      have HM := Aside0.mk hm2
      clear HF hm2
      go_wp2
      go_roundw
      case rel => exact ⟨3, by rw [HM.out], rfl, ⟨by decide⟩, ⟨trivial⟩⟩
      case measure => decide
    · have HF := Aside0.mk (show fourN l 4 = (fourN l 3 * 256 % 4294967296 + byt l 3 % 4294967296) % 4294967296 from rfl)
      have hj := join_step (fourN l 3) (byt l 3) (HA.out 3)
      rw [← HF.out] at hj
      generalize fourN l 3 = n at hj ⊢
      generalize hm3 : fourN l 4 = m at hj HF ⊢
      have HM := Aside0.mk hm3
      clear HF hm3
      go_wp2
      go_roundw
      case rel => exact ⟨4, by rw [HM.out], rfl, ⟨by decide⟩, ⟨trivial⟩⟩
      case measure => decide
    · go_wp2
      go_ret
      exact ⟨rfl, HB.out⟩
set_option maxHeartbeats 2000000 in
set_option maxRecDepth 100000 in
theorem addr_Four (a : Ad) (ha : a.ok) (w : World) : Calls Try.prog 84 #[.agg (eA a)] w fun e w' => e = .returned (.int .u32 (fourN a.bs 4)) ∧ Below w.heap.size w w' := by
  have HB := Aside0.mk (Below.refl w.heap.size w)
  have HA := Aside0.mk ha
  clear ha
  have hat : ∀ (w : World) (g : Nat), (Instr.arrayAt 141 (.slice (some ⟨g, 1, none⟩) 4 16)).run Try.prog w = .ok (.pointer (some ⟨g, 1, none⟩)) w := fun _ _ => by kernel_rfl
  go_enter Try.func84, Try.ntmps84
  go_wp2_with (first
    | ((with_reducible refine gate_dst (N := 1) rfl ?_); refine box_event ?hg (N := 1) ?hd (cs := eA a) (t := 34) ?hr ?_; (case hd => rfl); (case hg => rfl); (case hr => first | (go_simp; done) | (go_simp; rfl)); intro g1 hg w1 hbox hb; have h0 : w1.cell? ⟨g1, 1, none⟩ = some (.int .u8 (byt a.bs 0)) := (blk_cell hbox 1).trans (eA_byte HA.out 0 (by decide)); have h1 : w1.cell? ⟨g1, 2, none⟩ = some (.int .u8 (byt a.bs 1)) := (blk_cell hbox 2).trans (eA_byte HA.out 1 (by decide)); have h2 : w1.cell? ⟨g1, 3, none⟩ = some (.int .u8 (byt a.bs 2)) := (blk_cell hbox 3).trans (eA_byte HA.out 2 (by decide)); have h3 : w1.cell? ⟨g1, 4, none⟩ = some (.int .u8 (byt a.bs 3)) := (blk_cell hbox 4).trans (eA_byte HA.out 3 (by decide)); replace HB := Aside0.mk (below_step (bel_later HB.out) hb); clear hb hg hbox)
    | (go_at_call 91; refine (four_Of a.bs (byt_range HA.out) _).mono ?_; rintro e w2 ⟨rfl, hb⟩; have HB2 := Aside0.mk (below_step (bel_later HB.out) hb); clear hb))
  go_ret
  exact ⟨rfl, HB2.out⟩
/-- The bytes of a number, the first one first: so many of them, the rest 0. -/
def by4 (n : Int) : Nat → List Int
  | 0 => [0, 0, 0, 0]
  | 1 => [n / 16777216 % 256, 0, 0, 0]
  | 2 => [n / 16777216 % 256, n / 65536 % 256, 0, 0]
  | 3 => [n / 16777216 % 256, n / 65536 % 256, n / 256 % 256, 0]
  | _ => [n / 16777216 % 256, n / 65536 % 256, n / 256 % 256, n % 256]
def b4L (l : List Int) : Array Value := (l.map (Value.int .u8)).toArray
theorem b4L_one (l : List Int) : (b4L l).all (·.oneCell') = true := by
  unfold b4L
  rw [Array.all_eq_true_iff_forall_mem]
  intro v hv
  simp only [List.mem_toArray, List.mem_map] at hv
  obtain ⟨x, _, rfl⟩ := hv
  rfl
theorem infoB4 (n : Int) (k : Nat) (hk : k ≤ 4) : (Try.prog.info? 141).map (·.size) = some (b4L (by4 n k)).size := by
  have h : (Try.prog.info? 141).map (·.size) = some 4 := by kernel_rfl
  rw [h]
  have hi3 : k = 0 ∨ k = 1 ∨ k = 2 ∨ k = 3 ∨ k = 4 := by omega
  rcases hi3 with rfl | rfl | rfl | rfl | rfl <;> rfl
set_option maxHeartbeats 2000000 in
set_option maxRecDepth 100000 in
theorem four_Bytes (n : Int) (w : World) : Calls Try.prog 90 #[.int .u32 n] w fun e w' => e = .returned (.agg (b4L (by4 n 4))) ∧ Below w.heap.size w w' := by
  have HB := Aside0.mk (Below.refl w.heap.size w)
  go_enter Try.func90, Try.ntmps90
  go_wp2_with (first
    | ((with_reducible refine gate_dst (N := 2) rfl ?_); refine box_event ?hg (N := 2) ?hd (cs := b4L (by4 n 0)) (t := 141) ?hr ?_; (case hd => rfl); (case hg => rfl); (case hr => first | (go_simp; done) | (go_simp; rfl)); intro g2 hg w2 hbox hb; have HX := Aside0.mk hbox; have HG2 := Aside0.mk (show w.heap.size ≤ g2 by rw [hg]; exact below_size (bel_later HB.out)); replace HB := Aside0.mk (below_step (bel_later HB.out) hb); clear hb hg hbox)
    | ((with_reducible refine gate_dst (N := 3) rfl ?_); refine box_event ?hg (N := 3) ?hd (cs := b4L (by4 n 0)) (t := 141) ?hr ?_; (case hd => rfl); (case hg => rfl); (case hr => first | (go_simp; done) | (go_simp; rfl)); intro g3 hg w3 hbox hb; have HY := Aside0.mk hbox; have HN := Aside0.mk (show g2 ≠ g3 by rw [hg]; exact Nat.ne_of_lt (blk_lt (blk_later HX.out))); have HG3 := Aside0.mk (show w.heap.size ≤ g3 by rw [hg]; exact below_size (bel_later HB.out)); replace HX := Aside0.mk (blk_below (blk_later HX.out) hb); replace HB := Aside0.mk (below_step (bel_later HB.out) hb); clear hb hg hbox))
  go_loopw [5] (fun v5 wr => ∃ i : Nat, v5 = .int .i64 (i : Int) ∧ Aside0 (i ≤ 4) ∧ Aside0 (wr.heap[g2]? = some (.cells (b4L (by4 n 0)) 141 (0, 0)) ∧ wr.heap[g3]? = some (.cells (b4L (by4 n i)) 141 (0, 0)) ∧ Below w.heap.size w wr)) (fun v5 _ => 4 - (intOf v5).toNat)
  case atStart => exact ⟨0, rfl, ⟨by omega⟩, ⟨HX.out, HY.out, HB.out⟩⟩
  case round =>
    obtain ⟨i, rfl, HI, HE⟩ := hrel
    clear HX HY HB
    have HX := Aside0.mk HE.out.1
    have HY := Aside0.mk HE.out.2.1
    have HB := Aside0.mk HE.out.2.2
    clear HE
    have hi3 : i = 0 ∨ i = 1 ∨ i = 2 ∨ i = 3 ∨ i = 4 := by have := HI.out; omega
    rcases hi3 with rfl | rfl | rfl | rfl | rfl
    · have hx0 : wr.cell? ⟨g3, 0, none⟩ = some (.int .u8 0) := blk_cell HY.out 0
      have hfz := blk_frozen HY.out 0
      go_wp2
      go_roundw
      case rel => exact ⟨1, rfl, ⟨by decide⟩, ⟨(Below.heap_setCell wr _ _ _ HN.out).trans HX.out, blk_put HY.out 0 (.int .u8 (by4 n 1)[0]!) rfl, HB.out.setCell HG3.out _⟩⟩
      case measure => decide
    · have hx1 : wr.cell? ⟨g3, 1, none⟩ = some (.int .u8 0) := blk_cell HY.out 1
      have hfz := blk_frozen HY.out 1
      go_wp2
      go_roundw
      case rel => exact ⟨2, rfl, ⟨by decide⟩, ⟨(Below.heap_setCell wr _ _ _ HN.out).trans HX.out, blk_put HY.out 1 (.int .u8 (by4 n 2)[1]!) rfl, HB.out.setCell HG3.out _⟩⟩
      case measure => decide
    · have hx2 : wr.cell? ⟨g3, 2, none⟩ = some (.int .u8 0) := blk_cell HY.out 2
      have hfz := blk_frozen HY.out 2
      go_wp2
      go_roundw
      case rel => exact ⟨3, rfl, ⟨by decide⟩, ⟨(Below.heap_setCell wr _ _ _ HN.out).trans HX.out, blk_put HY.out 2 (.int .u8 (by4 n 3)[2]!) rfl, HB.out.setCell HG3.out _⟩⟩
      case measure => decide
    · have hx3 : wr.cell? ⟨g3, 3, none⟩ = some (.int .u8 0) := blk_cell HY.out 3
      have hfz := blk_frozen HY.out 3
      go_wp2
      go_roundw
      case rel => exact ⟨4, rfl, ⟨by decide⟩, ⟨(Below.heap_setCell wr _ _ _ HN.out).trans HX.out, blk_put HY.out 3 (.int .u8 (by4 n 4)[3]!) rfl, HB.out.setCell HG3.out _⟩⟩
      case measure => decide
    · go_wp2_with (first
        | ((with_reducible refine gate_dst (N := 17) rfl ?_); refine wpList_load_row rfl 141 (.tmp 3) rfl g3 rfl 141 (b4L (by4 n 4)) (0, 0) _ HY.out Try.underlying141 rfl (infoB4 n 4 (by decide)) ?_)
        | ((with_reducible refine gate_store (t := 141) (p := 2) rfl ?_); refine wpList_store_row rfl 141 (.tmp 2) (.tmp 17) rfl g2 (b4L (by4 n 4)) rfl rfl 141 (b4L (by4 n 0)) HX.out (infoB4 n 4 (by decide)) rfl (b4L_one _) ?_; have HX6 := Aside0.mk (row_new (cells := b4L (by4 n 4)) HX.out); have HB6 := Aside0.mk (below_row HB.out HG2.out (b4L (by4 n 4)))))
      refine bodyPost_ret (results_cell_row rfl _ _ g2 141 (b4L (by4 n 4)) (0, 0) _ rfl HX6.out Try.underlying141 rfl (infoB4 n 4 (by decide))) rfl ?_
      exact ⟨rfl, HB6.out⟩
section
variable {P : Program}
/-- The operation 'copy', where its run is known by an equation. -/
theorem wp_copy_runA (w : World) {o : Oper} {a : Act} {K : Act → World → Prop} {Q : Exit → Act → World → Prop} (d s : Operand) (t t' : TypeId)
    (ho : o.op = .call { callee := .builtin .copy, args := #[d, s], argTypes := #[t, t'] }) (v u : Value) (hd : a.eval d = v) (hs : a.eval s = u) {v' : Value} {w' : World}
    (hr : (Builtin.copy_ #[t, t'] o.type #[v, u]).run P w = .ok v' w') (h : K (a.put o.dst v') w') : o.wp P a w K Q := by
  unfold Oper.wp execOp
  simp only [ho, resolve, invoke, builtin, Sem.run_bind, Sem.run_pure, Result.andThen_ok, List.map_toArray, List.map_cons, List.map_nil, hd, hs, hr]
  exact h
end
/-- An address of 32 bits. -/
def of4N (n : Int) : Ad := ⟨4, by4 n 4 ++ [0, 0, 0, 0, 0, 0, 0, 0, 0, 0, 0, 0]⟩
theorem of4_eq (n : Int) (h0 : 0 ≤ n) (h1 : n < 4294967296) : of4 n = of4N n := by
  have e0 : Int.tmod n 256 % 256 = n % 256 := by rw [Int.tmod_eq_emod_of_nonneg h0]; omega
  have d0 : Int.tdiv n 256 % 4294967296 = n / 256 := by rw [Int.tdiv_eq_ediv_of_nonneg h0]; omega
  have e1 : Int.tmod (n / 256) 256 % 256 = n / 256 % 256 := by rw [Int.tmod_eq_emod_of_nonneg (by omega)]; omega
  have d1 : Int.tdiv (n / 256) 256 % 4294967296 = n / 65536 := by rw [Int.tdiv_eq_ediv_of_nonneg (by omega)]; omega
  have e2 : Int.tmod (n / 65536) 256 % 256 = n / 65536 % 256 := by rw [Int.tmod_eq_emod_of_nonneg (by omega)]; omega
  have d2 : Int.tdiv (n / 65536) 256 % 4294967296 = n / 16777216 := by rw [Int.tdiv_eq_ediv_of_nonneg (by omega)]; omega
  have e3 : Int.tmod (n / 16777216) 256 % 256 = n / 16777216 % 256 := by rw [Int.tmod_eq_emod_of_nonneg (by omega)]; omega
  unfold of4 of4N
  simp only [of4L, e0, d0, e1, d1, e2, d2, e3, by4]
  rfl
set_option maxHeartbeats 4000000 in
set_option maxRecDepth 100000 in
theorem addr_Of4 (n : Int) (h0 : 0 ≤ n) (h1 : n < 4294967296) (w : World) : Calls Try.prog 83 #[.int .u32 n] w fun e w' => e = .returned (.agg (eA (of4 n))) ∧ Below w.heap.size w w' := by
  have HB := Aside0.mk (Below.refl w.heap.size w)
  rw [of4_eq n h0 h1]
  have HO := Aside0.mk (show (of4N n).ok by rw [← of4_eq n h0 h1]; exact ok_of4 n)
  clear h0 h1
  go_enter Try.func83, Try.ntmps83
  go_wp2_with (first
    | ((with_reducible refine gate_dst (N := 2) rfl ?_); refine box_event ?hg (N := 2) ?hd (cs := eA noA) (t := 34) ?hr ?_; (case hd => rfl); (case hg => rfl); (case hr => first | (go_simp; done) | (go_simp; rfl)); intro g2 hg w2 hbox hb; have HX := Aside0.mk hbox; have HG2 := Aside0.mk (show w.heap.size ≤ g2 by rw [hg]; exact below_size (bel_later HB.out)); replace HB := Aside0.mk (below_step (bel_later HB.out) hb); clear hb hg hbox)
    | ((with_reducible refine gate_dst (N := 5) rfl ?_); refine Kd.event_run (v := .agg (eA ⟨4, zeros16⟩)) rfl ?hr ?_; (case hr => first | (go_simp; done) | (go_simp; rfl)))
    | ((with_reducible refine gate_dst (N := 3) rfl ?_); refine box_event ?hg (N := 3) ?hd (cs := eA noA) (t := 34) ?hr ?_; (case hd => rfl); (case hg => rfl); (case hr => first | (go_simp; done) | (go_simp; rfl)); intro g3 hg w3 hbox hb; have HY := Aside0.mk hbox; have HN := Aside0.mk (show g2 ≠ g3 by rw [hg]; exact Nat.ne_of_lt (blk_lt (blk_later HX.out))); have HG3 := Aside0.mk (show w.heap.size ≤ g3 by rw [hg]; exact below_size (bel_later HB.out)); replace HX := Aside0.mk (blk_below (blk_later HX.out) hb); replace HB := Aside0.mk (below_step (bel_later HB.out) hb); clear hb hg hbox)
    | ((with_reducible refine gate_store (t := 34) (p := 3) rfl ?_); refine wpList_store_row rfl 34 (.tmp 3) (.tmp 5) rfl g3 (eA ⟨4, zeros16⟩) rfl rfl 34 (eA noA) HY.out infoA rfl (eA_one _) ?_; replace HX := Aside0.mk ((row_far (cells := eA ⟨4, zeros16⟩) HN.out).trans HX.out); replace HY := Aside0.mk (row_new (cells := eA ⟨4, zeros16⟩) HY.out); replace HB := Aside0.mk (below_row HB.out HG3.out (eA ⟨4, zeros16⟩)); generalize w3.setRow g3 (eA ⟨4, zeros16⟩) = w4 at HX HY HB ⊢)
    | (go_at_call 90; refine (four_Bytes n w4).mono ?_; rintro e w5 ⟨rfl, hb⟩; replace HX := Aside0.mk (blk_below HX.out hb); replace HY := Aside0.mk (blk_below HY.out hb); replace HB := Aside0.mk (below_step HB.out hb); clear hb)
    | ((with_reducible refine gate_dst (N := 4) rfl ?_); refine box_event ?hg (N := 4) ?hd (cs := b4L (by4 n 0)) (t := 141) ?hr ?_; (case hd => rfl); (case hg => rfl); (case hr => first | (go_simp; done) | (go_simp; rfl)); intro g4 hg w6 hbox hb; have HZ := Aside0.mk hbox; have HN4 := Aside0.mk (show g2 ≠ g4 ∧ g3 ≠ g4 by rw [hg]; exact ⟨Nat.ne_of_lt (blk_lt (blk_later HX.out)), Nat.ne_of_lt (blk_lt (blk_later HY.out))⟩); have HG4 := Aside0.mk (show w.heap.size ≤ g4 by rw [hg]; exact below_size (bel_later HB.out)); replace HX := Aside0.mk (blk_below (blk_later HX.out) hb); replace HY := Aside0.mk (blk_below (blk_later HY.out) hb); replace HB := Aside0.mk (below_step (bel_later HB.out) hb); clear hb hg hbox)
    | ((with_reducible refine gate_store (t := 141) (p := 4) rfl ?_); refine wpList_store_row rfl 141 (.tmp 4) (.tmp 7) rfl g4 (b4L (by4 n 4)) rfl rfl 141 (b4L (by4 n 0)) HZ.out (infoB4 n 4 (by decide)) rfl (b4L_one _) ?_; replace HX := Aside0.mk ((row_far (cells := b4L (by4 n 4)) HN4.out.1).trans HX.out); replace HY := Aside0.mk ((row_far (cells := b4L (by4 n 4)) HN4.out.2).trans HY.out); replace HZ := Aside0.mk (row_new (cells := b4L (by4 n 4)) HZ.out); replace HB := Aside0.mk (below_row HB.out HG4.out (b4L (by4 n 4))); generalize w6.setRow g4 (b4L (by4 n 4)) = w7 at HX HY HZ HB ⊢))
  obtain ⟨S, hS⟩ : ∃ S : World → Prop, S = fun _ => True := ⟨_, rfl⟩
  have HS := Aside0.mk (show ∀ x : World, S x by intro x; rw [hS]; trivial)
  clear hS
  have s0 := HS.out w7.drew
  (try simp only [Act.put, List.getElem_toArray, List.getElem_cons_succ, List.getElem_cons_zero, List.setIfInBounds_toArray, List.set_cons_zero, List.set_cons_succ])
  refine wp_region_held_drew (S := S) (by kernel_rfl) s0 (fun _ => ?_)
  refine wpAnyH_take (i := 0) (v := .pointer (some ⟨g3, 1, none⟩)) rfl (by kernel_rfl) (by kernel_rfl) (by kernel_rfl) (fun _ _ _ h => h) (Or.inl ⟨by kernel_rfl, fun w' h => by first | (go_simp; done) | (go_simp; rfl)⟩) s0 ?_
  (try simp only [Act.put, List.getElem_toArray, List.getElem_cons_succ, List.getElem_cons_zero, List.setIfInBounds_toArray, List.set_cons_zero, List.set_cons_succ])
  refine wpAnyH_take (i := 1) (v := .slice (some ⟨g3, 1, none⟩) 16 16) rfl (by kernel_rfl) (by kernel_rfl) (by kernel_rfl) (fun _ _ _ h => h) (Or.inl ⟨by kernel_rfl, fun w' h => by first | (go_simp; done) | (go_simp; rfl)⟩) s0 ?_
  (try simp only [Act.put, List.getElem_toArray, List.getElem_cons_succ, List.getElem_cons_zero, List.setIfInBounds_toArray, List.set_cons_zero, List.set_cons_succ])
  refine wpAnyH_take (i := 2) (v := .slice (some ⟨g4, 0, none⟩) 4 4) rfl (by kernel_rfl) (by kernel_rfl) (by kernel_rfl) (fun _ _ _ h => h) (Or.inl ⟨by kernel_rfl, fun w' h => by first | (go_simp; done) | (go_simp; rfl)⟩) s0 ?_
  (try simp only [Act.put, List.getElem_toArray, List.getElem_cons_succ, List.getElem_cons_zero, List.setIfInBounds_toArray, List.set_cons_zero, List.set_cons_succ])
  have HX8 := Aside0.mk (blk_later (b := w7.drew) HX.out)
  have HY8 := Aside0.mk (blk_later (b := w7.drew) HY.out)
  have HZ8 := Aside0.mk (blk_later (b := w7.drew) HZ.out)
  have HB8 := Aside0.mk (bel_later (b := w7.drew) HB.out)
  have hcp := Aside0.mk (run_copy_row (P := Try.prog) w7.drew 109 109 3 5 g3 1 16 16 ⟨g4, 0, none⟩ 4 4 (eA ⟨4, zeros16⟩) 34 ((by4 n 4).map (Value.int .u8)) Try.underlying109 (by kernel_rfl) HY8.out rfl (fun j v hv => by rw [Addr.add_mid, cell_of_row _ g4 (0 + j) (b4L (by4 n 4)) _ (0, 0) HZ8.out, Nat.zero_add]; unfold b4L; rw [List.getElem?_toArray]; exact hv) (by show 1 + 4 ≤ (eA ⟨4, zeros16⟩).size; rw [eA_size (ok_zeros 4)]; decide) (fun v hv => by simp only [List.mem_map] at hv; obtain ⟨x, _, rfl⟩ := hv; rfl))
  have HW := Aside0.mk (show ((eA ⟨4, zeros16⟩).toList.take 1 ++ (by4 n 4).map (Value.int .u8) ++ (eA ⟨4, zeros16⟩).toList.drop (1 + ((by4 n 4).map (Value.int .u8)).length)).toArray = eA (of4N n) from rfl)
  refine held_step (i := 3) (by kernel_rfl) rfl (by kernel_rfl) (fun K hK => ?_)
  refine wp_copy_runA w7.drew (.tmp 9) (.tmp 10) 109 109 rfl _ _ rfl rfl hcp.out ?_
  rw [HW.out]
  have HX9 := Aside0.mk ((row_far (cells := eA (of4N n)) HN.out).trans HX8.out)
  have HY9 := Aside0.mk (row_new (cells := eA (of4N n)) HY8.out)
  have HB9 := Aside0.mk (below_row HB8.out HG3.out (eA (of4N n)))
  refine hK.out _ _ (HS.out _) ?_
  clear hK K hcp HW
  (try simp only [Act.put, List.getElem_toArray, List.getElem_cons_succ, List.getElem_cons_zero, List.setIfInBounds_toArray, List.set_cons_zero, List.set_cons_succ])
  refine wpAnyH_done (by kernel_rfl) ?_ _
  generalize w7.drew.setRow g3 (eA (of4N n)) = w9 at HX9 HY9 HB9 ⊢
  go_wp2_with (first
    | ((with_reducible refine gate_dst (N := 12) rfl ?_); refine wpList_load_row rfl 34 (.tmp 3) rfl g3 rfl 34 (eA (of4N n)) (0, 0) _ HY9.out Try.underlying34 rfl (infoE HO.out) ?_)
    | ((with_reducible refine gate_store (t := 34) (p := 2) rfl ?_); refine wpList_store_row rfl 34 (.tmp 2) (.tmp 12) rfl g2 (eA (of4N n)) rfl rfl 34 (eA noA) HX9.out (infoE HO.out) ((eA_size ok_noA).trans (eA_size HO.out).symm) (eA_one _) ?_; have HX10 := Aside0.mk (row_new (cells := eA (of4N n)) HX9.out); have HB10 := Aside0.mk (below_row HB9.out HG2.out (eA (of4N n)))))
  refine bodyPost_ret (results_cell_row rfl _ _ g2 34 (eA (of4N n)) (0, 0) _ rfl HX10.out Try.underlying34 rfl (infoE HO.out)) rfl ?_
  exact ⟨rfl, HB10.out⟩
/-! ### structs held against one another -/
instance decAd : DecidableEq Ad := fun a b =>
  if h : a.fam = b.fam ∧ a.bs = b.bs then .isTrue (by cases a; cases b; obtain ⟨h1, h2⟩ := h; cases h1; cases h2; rfl) else .isFalse (fun e => h (by subst e; exact ⟨rfl, rfl⟩))
instance decPf : DecidableEq Pf := fun a b =>
  if h : a.a = b.a ∧ a.n = b.n then .isTrue (by cases a; cases b; obtain ⟨h1, h2⟩ := h; cases h1; cases h2; rfl) else .isFalse (fun e => h (by subst e; exact ⟨rfl, rfl⟩))
theorem dec_ad (a b : Ad) : ((a.fam == b.fam) && decide (a.bs = b.bs)) = decide (a = b) := by
  rw [Bool.eq_iff_iff]
  simp only [Bool.and_eq_true, beq_iff_eq, decide_eq_true_eq]
  constructor
  · rintro ⟨h1, h2⟩
    cases a; cases b; cases h1; cases h2; rfl
  · rintro rfl
    exact ⟨rfl, rfl⟩
theorem dec_pf (a b : Pf) : (decide (a.a = b.a) && (a.n == b.n)) = decide (a = b) := by
  rw [Bool.eq_iff_iff]
  simp only [Bool.and_eq_true, beq_iff_eq, decide_eq_true_eq]
  constructor
  · rintro ⟨h1, h2⟩
    cases a; cases b; cases h1; cases h2; rfl
  · rintro rfl
    exact ⟨rfl, rfl⟩
theorem plain_u8 : Try.prog.plainKey 5 = true := by kernel_rfl
theorem plain_int : Try.prog.plainKey 3 = true := by kernel_rfl
theorem cells_u8 : Try.prog.cellsOf 5 = 1 := by kernel_rfl
theorem at_map (x : List Int) (i : Nat) (h : i < x.length) : (x.map (Value.int .u8)).toArray[i]? = some (.int .u8 (byt x i)) := by
  unfold byt
  rw [List.getElem?_toArray, List.getElem?_map, List.getElem?_eq_getElem h, List.getD_eq_getElem?_getD, List.getElem?_eq_getElem h]
  rfl
theorem eq_items (d : Nat) (x y : List Int) (w : World) : ∀ is : List Nat, (∀ i ∈ is, i < x.length ∧ i < y.length) → (Op.eqItems (d + 1) 5 1 (x.map (Value.int .u8)).toArray (y.map (Value.int .u8)).toArray is).run Try.prog w = .ok (is.all fun i => byt x i == byt y i) w
  | [], _ => by simp [Op.eqItems]
  | i :: is, h => by
    have ih := eq_items d x y w is (fun j hj => h j (List.mem_cons_of_mem _ hj))
    obtain ⟨h1, h2⟩ := h i List.mem_cons_self
    have p1 := run_part_plain (P := Try.prog) w plain_u8 (at_map x i h1)
    have p2 := run_part_plain (P := Try.prog) w plain_u8 (at_map y i h2)
    have p3 := run_equalIn_int (P := Try.prog) w d 5 .u8 .u8 (byt x i) (byt y i) Try.underlying5
    simp only [Op.eqItems, Nat.mul_one, Sem.run_bind, p1, p2, p3, Result.andThen_ok, List.all_cons]
    cases hb : (byt x i == byt y i)
    · simp
    · simpa using ih
theorem all_byt (x y : List Int) (n : Nat) (hx : x.length = n) (hy : y.length = n) : ((List.range n).all fun i => byt x i == byt y i) = decide (x = y) := by
  rw [Bool.eq_iff_iff]
  simp only [List.all_eq_true, List.mem_range, beq_iff_eq, decide_eq_true_eq]
  constructor
  · intro h
    refine List.ext_getElem (hx.trans hy.symm) (fun i h1 h2 => ?_)
    have := h i (by omega)
    unfold byt at this
    rw [List.getD_eq_getElem?_getD, List.getD_eq_getElem?_getD, List.getElem?_eq_getElem h1, List.getElem?_eq_getElem h2] at this
    exact this
  · rintro rfl i _
    rfl
theorem eq_bytes (d : Nat) (x y : List Int) (hx : x.length = 16) (hy : y.length = 16) (w : World) : (Op.equalIn (d + 2) 32 (.agg (x.map (Value.int .u8)).toArray) (.agg (y.map (Value.int .u8)).toArray)).run Try.prog w = .ok (decide (x = y)) w := by
  obtain ⟨i, hi⟩ := info_of_underlying (P := Try.prog) Try.underlying5
  rw [run_equalIn_array (P := Try.prog) w (d + 1) _ _ Try.underlying32 hi, cells_u8, eq_items d x y w (List.range 16) (fun j hj => by have := List.mem_range.1 hj; omega), all_byt x y 16 hx hy]
theorem part_fam (l : List Value) (f : Int) (w : World) : (part 3 (Value.int .i64 f :: l).toArray 0).run Try.prog w = .ok (.int .i64 f) w := run_part_plain (P := Try.prog) w plain_int rfl
set_option maxRecDepth 100000 in
theorem part_cut {t : TypeId} {n : Nat} {dsc : TypeDesc} (l m r : List Value) (w : World) (hu : Try.prog.underlying t = some dsc) (hd : dsc.isRow = true) (hi : (Try.prog.info? t).map (·.size) = some m.length) (hl : l.length = n) : (part t (l ++ m ++ r).toArray n).run Try.prog w = .ok (.agg m.toArray) w := by
  have hagg : (isAgg t).run Try.prog w = .ok true w := by
    unfold isAgg
    rw [Sem.run_bind, run_underlying hu w]
    cases dsc <;> simp_all
  cases hq : Try.prog.info? t with
  | none => simp [hq] at hi
  | some i =>
    have hs : i.size = m.length := by simpa [hq] using hi
    have hdt : List.take m.length (List.drop n (l ++ (m ++ r))) = m := by rw [← hl, List.drop_left, List.take_left]
    simp [part, hagg, sizeOf, typeInfo, hq, hs, hdt]
theorem eq_addr (d : Nat) (a b : Ad) (ha : a.ok) (hb : b.ok) (w : World) : (Op.equalIn (d + 3) 34 (.agg (eA a)) (.agg (eA b))).run Try.prog w = .ok (decide (a = b)) w := by
  have hi : (Try.prog.info? 32).map (·.size) = some 16 := by kernel_rfl
  have p1 := part_cut (t := 32) (n := 1) [.int .i64 a.fam] (a.bs.map (Value.int .u8)) [] w Try.underlying32 rfl (by rw [hi, List.length_map, ha.1]) rfl
  have p2 := part_cut (t := 32) (n := 1) [.int .i64 b.fam] (b.bs.map (Value.int .u8)) [] w Try.underlying32 rfl (by rw [hi, List.length_map, hb.1]) rfl
  rw [List.append_nil] at p1 p2
  rw [← dec_ad]
  refine eqA_of (P := Try.prog) Try.underlying34 (by kernel_rfl) ?_
  refine eqf_cons (by kernel_rfl) (part_fam _ _ w) (part_fam _ _ w) (run_equalIn_int (P := Try.prog) w (d + 1) 3 .i64 .i64 a.fam b.fam Try.underlying3) ?_
  exact eqf_last (by kernel_rfl) p1 p2 (eq_bytes d a.bs b.bs ha.1 hb.1 w)
theorem eq_pf (d : Nat) (p q : Pf) (hp : p.a.ok) (hq : q.a.ok) (w : World) : (Op.equalIn (d + 4) 39 (.agg (eP p)) (.agg (eP q))).run Try.prog w = .ok (decide (p = q)) w := by
  have p1 := part_cut (t := 34) (n := 0) [] (lA p.a) [.int .i64 p.n] w Try.underlying34 rfl (by rw [lA_len hp]; exact infoA) rfl
  have p2 := part_cut (t := 34) (n := 0) [] (lA q.a) [.int .i64 q.n] w Try.underlying34 rfl (by rw [lA_len hq]; exact infoA) rfl
  rw [List.nil_append] at p1 p2
  rw [← dec_pf]
  refine eqA_of (P := Try.prog) Try.underlying39 (by kernel_rfl) ?_
  refine eqf_cons (by kernel_rfl) p1 p2 (eq_addr d p.a q.a hp hq w) ?_
  exact eqf_last (by kernel_rfl) (run_part_plain (P := Try.prog) w plain_int (eP_n hp)) (run_part_plain (P := Try.prog) w plain_int (eP_n hq)) (run_equalIn_int (P := Try.prog) w (d + 2) 3 .i64 .i64 p.n q.n Try.underlying3)
section
variable {P : Program}
/-- '==' of two structs, where it is known what they are held to be. -/
theorem run_eql_op {op : Oper} {a : Act} {w : World} {t t' : TypeId} {x y : Operand} {xs ys : Array Value} {r : Bool} (ho : op.op = .binOp .eql t x y t') (hx : a.eval x = .agg xs) (hy : a.eval y = .agg ys) (hm : P.eqGuardType P.depth t = false) (he : (Op.equalIn 10000 t (.agg xs) (.agg ys)).run P w = .ok r w) : (execOp a.eval op).run P w = .ok (.value (.bool r)) w := by
  unfold execOp
  simp only [ho, hx, hy, Sem.run_bind, run_eqGuard_agg w .eql t x y xs ys hm, run_eql_struct, he, Result.andThen_ok]
  simp
/-- An operation whose run is known by an equation. -/
theorem wp_value_run {o : Oper} {a : Act} {w w1 : World} {K : Act → World → Prop} {Q : Exit → Act → World → Prop} {v : Value} (hrun : (execOp a.eval o).run P w = .ok (.value v) w1) (h : K (a.put o.dst v) w1) : Oper.wp P o a w K Q := by
  unfold Oper.wp
  rw [hrun]
  exact h
theorem run_neq_op {op : Oper} {a : Act} {w : World} {t t' : TypeId} {x y : Operand} {xs ys : Array Value} {r : Bool} (ho : op.op = .binOp .neq t x y t') (hx : a.eval x = .agg xs) (hy : a.eval y = .agg ys) (hm : P.eqGuardType P.depth t = false) (he : (Op.equalIn 10000 t (.agg xs) (.agg ys)).run P w = .ok r w) : (execOp a.eval op).run P w = .ok (.value (.bool (!r))) w := by
  unfold execOp
  simp only [ho, hx, hy, Sem.run_bind, run_eqGuard_agg w .neq t x y xs ys hm, run_neq_struct, he, Result.andThen_ok]
  simp
end
/-! ### addr.May -/
theorem zerB_iff (l : List Int) : ∀ (d i : Nat), zerB l d i = true ↔ ∀ j, i ≤ j → j < i + d → byt l j = 0
  | 0, i => ⟨fun _ j h1 h2 => by omega, fun _ => rfl⟩
  | d + 1, i => by
    have ih := zerB_iff l d (i + 1)
    unfold zerB
    rw [Bool.and_eq_true, ih, beq_iff_eq]
    constructor
    · rintro ⟨h1, h2⟩ j h3 h4
      by_cases h : j = i
      · rw [h]; exact h1
      · exact h2 j (by omega) (by omega)
    · intro h
      exact ⟨h i (by omega) (by omega), fun j h1 h2 => h j (by omega) (by omega)⟩
theorem bytes_ext {x y : List Int} {n : Nat} (hx : x.length = n) (hy : y.length = n) (h : ∀ j, j < n → byt x j = byt y j) : x = y := by
  have := all_byt x y n hx hy
  rw [List.all_eq_true.2 (fun i hi => by have := h i (List.mem_range.1 hi); simpa using this)] at this
  exact of_decide_eq_true this.symm
theorem byt_zeros (j : Nat) : byt zeros16 j = 0 := by
  by_cases h : j < 16
  · rcases (show j = 0 ∨ j = 1 ∨ j = 2 ∨ j = 3 ∨ j = 4 ∨ j = 5 ∨ j = 6 ∨ j = 7 ∨ j = 8 ∨ j = 9 ∨ j = 10 ∨ j = 11 ∨ j = 12 ∨ j = 13 ∨ j = 14 ∨ j = 15 by omega) with rfl | rfl | rfl | rfl | rfl | rfl | rfl | rfl | rfl | rfl | rfl | rfl | rfl | rfl | rfl | rfl <;> rfl
  · unfold byt
    rw [List.getD_eq_getElem?_getD, List.getElem?_eq_none (by show 16 ≤ j; omega)]
    rfl
theorem mayA_none (a : Ad) (ha : a.ok) (hz : a.fam = 0) : mayA a = decide (a = noA) := by
  unfold mayA famB fromA
  rw [Bool.eq_iff_iff, if_pos hz, hz, Bool.and_eq_true, zerB_iff, decide_eq_true_eq]
  constructor
  · rintro ⟨h, _⟩
    have e := bytes_ext ha.1 (show zeros16.length = 16 from rfl) (fun j hj => (h j (by omega) (by omega)).trans (byt_zeros j).symm)
    cases a
    cases hz
    cases e
    rfl
  · rintro rfl
    exact ⟨fun j _ _ => byt_zeros j, rfl⟩
theorem four_bytes (l : List Int) (h : ∀ i, 0 ≤ byt l i ∧ byt l i ≤ 255) : 0 ≤ fourN l 4 ∧ fourN l 4 < 4294967296 ∧ by4 (fourN l 4) 4 = [byt l 0, byt l 1, byt l 2, byt l 3] := by
  have h0 := h 0
  have h1 := h 1
  have h2 := h 2
  have h3 := h 3
  have e : fourN l 4 = ((byt l 0 * 256 + byt l 1) * 256 + byt l 2) * 256 + byt l 3 := by
    have f1 : fourN l 1 = byt l 0 := by show (0 * 256 % 4294967296 + byt l 0 % 4294967296) % 4294967296 = byt l 0; omega
    have f2 : fourN l 2 = byt l 0 * 256 + byt l 1 := by show (fourN l 1 * 256 % 4294967296 + byt l 1 % 4294967296) % 4294967296 = _; rw [f1]; omega
    have f3 : fourN l 3 = (byt l 0 * 256 + byt l 1) * 256 + byt l 2 := by show (fourN l 2 * 256 % 4294967296 + byt l 2 % 4294967296) % 4294967296 = _; rw [f2]; omega
    show (fourN l 3 * 256 % 4294967296 + byt l 3 % 4294967296) % 4294967296 = _
    rw [f3]
    omega
  have g0 : fourN l 4 / 16777216 % 256 = byt l 0 := by omega
  have g1 : fourN l 4 / 65536 % 256 = byt l 1 := by omega
  have g2 : fourN l 4 / 256 % 256 = byt l 2 := by omega
  have g3 : fourN l 4 % 256 = byt l 3 := by omega
  refine ⟨by omega, by omega, ?_⟩
  show [fourN l 4 / 16777216 % 256, fourN l 4 / 65536 % 256, fourN l 4 / 256 % 256, fourN l 4 % 256] = _
  rw [g0, g1, g2, g3]
theorem byt_of4N (n : Int) (j : Nat) : byt (of4N n).bs j = if j < 4 then byt (by4 n 4) j else 0 := by
  by_cases h : j < 16
  · rcases (show j = 0 ∨ j = 1 ∨ j = 2 ∨ j = 3 ∨ j = 4 ∨ j = 5 ∨ j = 6 ∨ j = 7 ∨ j = 8 ∨ j = 9 ∨ j = 10 ∨ j = 11 ∨ j = 12 ∨ j = 13 ∨ j = 14 ∨ j = 15 by omega) with rfl | rfl | rfl | rfl | rfl | rfl | rfl | rfl | rfl | rfl | rfl | rfl | rfl | rfl | rfl | rfl <;> rfl
  · rw [if_neg (by omega)]
    unfold byt
    rw [List.getD_eq_getElem?_getD, List.getElem?_eq_none (by show 16 ≤ j; omega)]
    rfl
theorem mayA_four (a : Ad) (ha : a.ok) (h4 : a.fam = 4) : mayA a = decide (a = of4 (fourN a.bs 4)) := by
  obtain ⟨f0, f1, f2⟩ := four_bytes a.bs (byt_range ha)
  rw [of4_eq _ f0 f1]
  unfold mayA famB fromA
  rw [Bool.eq_iff_iff, h4, if_neg (by decide), if_pos rfl, Bool.and_eq_true, zerB_iff, decide_eq_true_eq]
  have hb : ∀ j, byt (of4N (fourN a.bs 4)).bs j = if j < 4 then byt a.bs j else 0 := fun j => by
    rw [byt_of4N, f2]
    by_cases hj : j < 4
    · rw [if_pos hj, if_pos hj]
      rcases (show j = 0 ∨ j = 1 ∨ j = 2 ∨ j = 3 by omega) with rfl | rfl | rfl | rfl <;> rfl
    · rw [if_neg hj, if_neg hj]
  constructor
  · rintro ⟨h, _⟩
    have e := bytes_ext (y := (of4N (fourN a.bs 4)).bs) ha.1 rfl (fun j hj => by
      rw [hb]
      by_cases hj4 : j < 4
      · rw [if_pos hj4]
      · rw [if_neg hj4]; exact h j (by omega) (by omega))
    exact (show a = ⟨4, (of4N (fourN a.bs 4)).bs⟩ by rw [← e, ← h4])
  · intro h
    refine ⟨fun j h1 h2 => ?_, rfl⟩
    have := hb j
    rw [← h, if_neg (by omega)] at this
    exact this
theorem mayA_other (a : Ad) (hz : a.fam ≠ 0) (h4 : a.fam ≠ 4) : mayA a = (a.fam == 6) := by
  unfold mayA famB fromA
  rw [if_neg hz, if_neg h4, show (a.fam == 0) = false by simpa using hz, show (a.fam == 4) = false by simpa using h4]
  rfl
set_option maxHeartbeats 4000000 in
set_option maxRecDepth 100000 in
theorem addr_May (a : Ad) (ha : a.ok) (w : World) : Calls Try.prog 72 #[.agg (eA a)] w fun e w' => e = .returned (.bool (mayA a)) ∧ Below w.heap.size w w' := by
  have HB := Aside0.mk (Below.refl w.heap.size w)
  have HA := Aside0.mk ha
  have HS := Aside0.mk (four_bytes a.bs (byt_range ha))
  clear ha
  cases hz : (a.fam == 0)
  · cases h4 : (a.fam == 4)
    · have HR := Aside0.mk (mayA_other a (by simpa using hz) (by simpa using h4))
      go_enter Try.func72, Try.ntmps72
      go_wp2_with (first
        | ((with_reducible refine gate_dst (N := 1) rfl ?_); refine box_event ?hg (N := 1) ?hd (cs := eA a) (t := 34) ?hr ?_; (case hd => rfl); (case hg => rfl); (case hr => first | (go_simp; done) | (go_simp; rfl)); intro g1 hg w1 hbox hb; have HX := Aside0.mk hbox; have h0 := (blk_cell hbox 0).trans (eA_fam a); replace HB := Aside0.mk (below_step (bel_later HB.out) hb); clear hb hg hbox))
      go_ret
      exact ⟨by rw [HR.out]; first | done | rfl, HB.out⟩
    · have HR := Aside0.mk (mayA_four a HA.out (by simpa using h4))
      go_enter Try.func72, Try.ntmps72
      go_wp2_with (first
        | ((with_reducible refine gate_dst (N := 1) rfl ?_); refine box_event ?hg (N := 1) ?hd (cs := eA a) (t := 34) ?hr ?_; (case hd => rfl); (case hg => rfl); (case hr => first | (go_simp; done) | (go_simp; rfl)); intro g1 hg w1 hbox hb; have HX := Aside0.mk hbox; have h0 := (blk_cell hbox 0).trans (eA_fam a); replace HB := Aside0.mk (below_step (bel_later HB.out) hb); clear hb hg hbox))
      obtain ⟨S, hS⟩ : ∃ S : World → Prop, S = fun w' => w'.heap[g1]? = some (.cells (eA a) 34 (0, 0)) ∧ Below w.heap.size w w' := ⟨_, rfl⟩
      have HSt := Aside0.mk (show ∀ a b : World, S a → Below a.heap.size a b → S b by
        intro a b h hb
        rw [hS] at h ⊢
        exact ⟨blk_below h.1 hb, below_step h.2 hb⟩)
      have HSx := Aside0.mk (show ∀ b : World, S b → b.heap[g1]? = some (.cells (eA a) 34 (0, 0)) ∧ Below w.heap.size w b by
        intro b h
        rw [hS] at h
        exact h)
      have s0 : S w1.drew := by rw [hS]; exact ⟨blk_later HX.out, bel_later HB.out⟩
      clear hS h0
      refine wp_region_held_drew (S := S) (by kernel_rfl) s0 (fun _ => ?_)
      refine anyH_world s0 (fun w5 s5 => ?_)
      clear s0
      have s0 := s5
      clear s5
      refine wpAnyH_take (i := 0) (v := .agg (eA a)) rfl ?z0b ?z0c ?z0d (fun _ _ _ h => h) ?z0e s0 ?z0f
      case z0b => kernel_rfl
      case z0c => kernel_rfl
      case z0d => kernel_rfl
      case z0e => exact yields_row (by kernel_rfl) 34 (.tmp 1) rfl g1 rfl 34 (eA a) (0, 0) _ (fun w' h => (HSx.out w' h).1) Try.underlying34 rfl (infoE HA.out)
      (try simp only [Act.put, List.getElem_toArray, List.getElem_cons_succ, List.getElem_cons_zero, List.setIfInBounds_toArray, List.set_cons_zero, List.set_cons_succ])
      refine wpAnyH_take (i := 1) (v := .agg (eA a)) rfl ?z1b ?z1c ?z1d (fun _ _ _ h => h) ?z1e s0 ?z1f
      case z1b => kernel_rfl
      case z1c => kernel_rfl
      case z1d => kernel_rfl
      case z1e => exact yields_row (by kernel_rfl) 34 (.tmp 1) rfl g1 rfl 34 (eA a) (0, 0) _ (fun w' h => (HSx.out w' h).1) Try.underlying34 rfl (infoE HA.out)
      (try simp only [Act.put, List.getElem_toArray, List.getElem_cons_succ, List.getElem_cons_zero, List.setIfInBounds_toArray, List.set_cons_zero, List.set_cons_succ])
      refine held_step (i := 2) (by kernel_rfl) rfl (by kernel_rfl) (fun K hK => ?_)
      go_wp2_with (go_at_call 84; refine (addr_Four a HA.out w5).mono ?_; rintro e w6 ⟨rfl, hb⟩; have s1 := HSt.out _ _ s0 hb; clear hb)
      refine hK.out _ _ s1 ?_
      clear hK K
      (try simp only [Act.put, List.getElem_toArray, List.getElem_cons_succ, List.getElem_cons_zero, List.setIfInBounds_toArray, List.set_cons_zero, List.set_cons_succ])
      refine held_step (i := 3) (by kernel_rfl) rfl (by kernel_rfl) (fun K hK => ?_)
      go_wp2_with (go_at_call 83; refine (addr_Of4 (fourN a.bs 4) HS.out.1 HS.out.2.1 w6).mono ?_; rintro e w7 ⟨rfl, hb⟩; have s2 := HSt.out _ _ s1 hb; clear hb)
      refine hK.out _ _ s2 ?_
      clear hK K
      (try simp only [Act.put, List.getElem_toArray, List.getElem_cons_succ, List.getElem_cons_zero, List.setIfInBounds_toArray, List.set_cons_zero, List.set_cons_succ])
      refine held_step (i := 4) (by kernel_rfl) rfl (by kernel_rfl) (fun K hK => ?_)
      refine wp_value_run (run_eql_op (r := decide (a = of4 (fourN a.bs 4))) rfl rfl rfl (by kernel_rfl) (eq_addr 9997 a (of4 (fourN a.bs 4)) HA.out (ok_of4 _) _)) ?_
      refine hK.out _ _ s2 ?_
      clear hK K
      (try simp only [Act.put, List.getElem_toArray, List.getElem_cons_succ, List.getElem_cons_zero, List.setIfInBounds_toArray, List.set_cons_zero, List.set_cons_succ])
      refine held_step (i := 5) (by kernel_rfl) rfl (by kernel_rfl) (fun K hK => ?_)
      go_wp2
      refine hK.out _ _ s2 ?_
      clear hK K
      (try simp only [Act.put, List.getElem_toArray, List.getElem_cons_succ, List.getElem_cons_zero, List.setIfInBounds_toArray, List.set_cons_zero, List.set_cons_succ])
      refine wpAnyH_done (by kernel_rfl) ?_ _
      have HF := Aside0.mk (HSx.out _ s2).2
      clear s0 s1 s2
      go_wp2
      go_ret
      exact ⟨by rw [HR.out]; first | done | rfl, HF.out⟩
  · have HR := Aside0.mk (mayA_none a HA.out (by simpa using hz))
    go_enter Try.func72, Try.ntmps72
    go_wp2_with (first
      | ((with_reducible refine gate_dst (N := 1) rfl ?_); refine box_event ?hg (N := 1) ?hd (cs := eA a) (t := 34) ?hr ?_; (case hd => rfl); (case hg => rfl); (case hr => first | (go_simp; done) | (go_simp; rfl)); intro g1 hg w1 hbox hb; have HX := Aside0.mk hbox; have h0 := (blk_cell hbox 0).trans (eA_fam a); replace HB := Aside0.mk (below_step (bel_later HB.out) hb); clear hb hg hbox)
      | ((with_reducible refine gate_dst (N := 7) rfl ?_); refine wpList_load_row rfl 34 (.tmp 1) rfl g1 rfl 34 (eA a) (0, 0) _ HX.out Try.underlying34 rfl (infoE HA.out) ?_)
      | ((with_reducible refine gate_dst (N := 9) rfl ?_); refine Kd.event_run (v := .bool (decide (a = noA))) rfl (run_eql_op rfl rfl rfl (by kernel_rfl) (eq_addr 9997 a noA HA.out ok_noA _)) ?_))
    go_ret
    exact ⟨by rw [HR.out]; first | done | rfl, HB.out⟩
end Go.Proofs.Ythjhbhgfckaklaa.P
end
