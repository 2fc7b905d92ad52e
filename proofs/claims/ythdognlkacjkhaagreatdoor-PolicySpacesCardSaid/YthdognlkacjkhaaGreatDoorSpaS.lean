/-
  abatisref04.Groups, abatisref03.Mapped, abatisref04.Unmap, (*table.Table).Len.
-/
import Derived.Test.YthdognlkacjkhaaGreatDoorSpaQ
namespace Go.Proofs.YthdognlkacjkhaaGreatDoor.P
open Go.RowKit Go.Proofs.YthdognlkacjkhaaGreatDoorW.PrintWords Go.Proofs.YthdognlkacjkhaaGreatDoorW.PrintLast Go.Proofs.YthdognlkacjkhaaGreatDoorW.PrintMore
set_option linter.unusedVariables false
set_option linter.unusedSimpArgs false
set_option maxHeartbeats 8000000 in
set_option maxRecDepth 100000 in
theorem ref04_Groups (f b0 b1 b2 b3 b4 b5 b6 b7 b8 b9 b10 b11 b12 b13 b14 b15 : Int) (ha : Ad.ok ⟨f, [b0, b1, b2, b3, b4, b5, b6, b7, b8, b9, b10, b11, b12, b13, b14, b15]⟩) (w : World) : Calls Tryz.prog 29 #[.agg (eA ⟨f, [b0, b1, b2, b3, b4, b5, b6, b7, b8, b9, b10, b11, b12, b13, b14, b15]⟩)] w fun e w' => e = .returned (.agg (e8 [b0 * 256 + b1, b2 * 256 + b3, b4 * 256 + b5, b6 * 256 + b7, b8 * 256 + b9, b10 * 256 + b11, b12 * 256 + b13, b14 * 256 + b15])) ∧ Below w.heap.size w w' := by
  have HB := Aside0.mk (Below.refl w.heap.size w)
  have HA := Aside0.mk ha
  have hr := ha.2
  simp only [List.mem_cons, List.not_mem_nil, or_false, forall_eq_or_imp, forall_eq] at hr
  obtain ⟨r0, r1, r2, r3, r4, r5, r6, r7, r8, r9, r10, r11, r12, r13, r14, r15⟩ := hr
  have R0 := Aside0.mk r0
  have R1 := Aside0.mk r1
  have R2 := Aside0.mk r2
  have R3 := Aside0.mk r3
  have R4 := Aside0.mk r4
  have R5 := Aside0.mk r5
  have R6 := Aside0.mk r6
  have R7 := Aside0.mk r7
  have R8 := Aside0.mk r8
  have R9 := Aside0.mk r9
  have R10 := Aside0.mk r10
  have R11 := Aside0.mk r11
  have R12 := Aside0.mk r12
  have R13 := Aside0.mk r13
  have R14 := Aside0.mk r14
  have R15 := Aside0.mk r15
  clear ha r0 r1 r2 r3 r4 r5 r6 r7 r8 r9 r10 r11 r12 r13 r14 r15
  go_enter Tryz.func29, Tryz.ntmps29
  go_wp2_with (first
    | ((with_reducible refine gate_dst (N := 1) rfl ?_); refine box_event ?hg (N := 1) ?hd (cs := eA ⟨f, [b0, b1, b2, b3, b4, b5, b6, b7, b8, b9, b10, b11, b12, b13, b14, b15]⟩) (t := 30) ?hr ?_; (case hd => rfl); (case hg => rfl); (case hr => first | (go_simp; done) | (go_simp; rfl)); intro k1 hg w1 hbox hb; have H1 := Aside0.mk hbox; have HG1 := Aside0.mk (show w.heap.size ≤ k1 by rw [hg]; exact HB.out.size); replace HB := Aside0.mk (below_step HB.out hb); clear hb hg hbox)
    | ((with_reducible refine gate_dst (N := 2) rfl ?_); refine box_event ?hg (N := 2) ?hd (cs := e8 [0, 0, 0, 0, 0, 0, 0, 0]) (t := 76) ?hr ?_; (case hd => rfl); (case hg => rfl); (case hr => first | (go_simp; done) | (go_simp; rfl)); intro k2 hg w2 hbox hb; have H2 := Aside0.mk hbox; have HG2 := Aside0.mk (show w.heap.size ≤ k2 by rw [hg]; exact HB.out.size); have HN2 := Aside0.mk (show k1 ≠ k2 by have h1 := (Array.getElem?_eq_some_iff.1 H1.out).1; omega); replace H1 := Aside0.mk (blk_below H1.out hb); replace HB := Aside0.mk (below_step HB.out hb); clear hb hg hbox)
    | ((with_reducible refine gate_dst (N := 3) rfl ?_); refine box_event ?hg (N := 3) ?hd (cs := e8 [0, 0, 0, 0, 0, 0, 0, 0]) (t := 76) ?hr ?_; (case hd => rfl); (case hg => rfl); (case hr => first | (go_simp; done) | (go_simp; rfl)); intro k3 hg w3 hbox hb; have H3 := Aside0.mk hbox; have HG3 := Aside0.mk (show w.heap.size ≤ k3 by rw [hg]; exact HB.out.size); have HN3 := Aside0.mk (show k1 ≠ k3 ∧ k2 ≠ k3 by have h1 := (Array.getElem?_eq_some_iff.1 H1.out).1; have h2 := (Array.getElem?_eq_some_iff.1 H2.out).1; omega); replace H1 := Aside0.mk (blk_below H1.out hb); replace H2 := Aside0.mk (blk_below H2.out hb); replace HB := Aside0.mk (below_step HB.out hb); clear hb hg hbox))
  go_loopw [4] (fun v4 wr => ∃ i : Nat, v4 = .int .i64 (i : Int) ∧ Aside0 (i ≤ 8) ∧ Aside0 (wr.heap[k1]? = some (.cells (eA ⟨f, [b0, b1, b2, b3, b4, b5, b6, b7, b8, b9, b10, b11, b12, b13, b14, b15]⟩) 30 (0, 0)) ∧ wr.heap[k2]? = some (.cells (e8 [0, 0, 0, 0, 0, 0, 0, 0]) 76 (0, 0)) ∧ wr.heap[k3]? = some (.cells (e8 (if i = 0 then [0, 0, 0, 0, 0, 0, 0, 0] else if i = 1 then [b0 * 256 + b1, 0, 0, 0, 0, 0, 0, 0] else if i = 2 then [b0 * 256 + b1, b2 * 256 + b3, 0, 0, 0, 0, 0, 0] else if i = 3 then [b0 * 256 + b1, b2 * 256 + b3, b4 * 256 + b5, 0, 0, 0, 0, 0] else if i = 4 then [b0 * 256 + b1, b2 * 256 + b3, b4 * 256 + b5, b6 * 256 + b7, 0, 0, 0, 0] else if i = 5 then [b0 * 256 + b1, b2 * 256 + b3, b4 * 256 + b5, b6 * 256 + b7, b8 * 256 + b9, 0, 0, 0] else if i = 6 then [b0 * 256 + b1, b2 * 256 + b3, b4 * 256 + b5, b6 * 256 + b7, b8 * 256 + b9, b10 * 256 + b11, 0, 0] else if i = 7 then [b0 * 256 + b1, b2 * 256 + b3, b4 * 256 + b5, b6 * 256 + b7, b8 * 256 + b9, b10 * 256 + b11, b12 * 256 + b13, 0] else [b0 * 256 + b1, b2 * 256 + b3, b4 * 256 + b5, b6 * 256 + b7, b8 * 256 + b9, b10 * 256 + b11, b12 * 256 + b13, b14 * 256 + b15])) 76 (0, 0)) ∧ Below w.heap.size w wr)) (fun v4 _ => 8 - (intOf v4).toNat)
  case atStart => exact ⟨0, rfl, ⟨by omega⟩, ⟨H1.out, H2.out, H3.out, HB.out⟩⟩
  case round =>
    obtain ⟨i, rfl, HI, HE⟩ := hrel
    clear H1 H2 H3 HB
    have H1 := Aside0.mk HE.out.1
    have H2 := Aside0.mk HE.out.2.1
    have H3 := Aside0.mk HE.out.2.2.1
    have HB := Aside0.mk HE.out.2.2.2
    clear HE
    have hi9 : i = 0 ∨ i = 1 ∨ i = 2 ∨ i = 3 ∨ i = 4 ∨ i = 5 ∨ i = 6 ∨ i = 7 ∨ i = 8 := by have := HI.out; omega
    rcases hi9 with rfl | rfl | rfl | rfl | rfl | rfl | rfl | rfl | rfl
    · have c1 : wr.drew.cell? ⟨k1, 1, none⟩ = some (.int .u8 b0) := blk_cell H1.out 1
      have c2 : wr.drew.cell? ⟨k1, 2, none⟩ = some (.int .u8 b1) := blk_cell H1.out 2
      have x2 : wr.drew.cell? ⟨k3, 0, none⟩ = some (.int .u16 0) := blk_cell H3.out 0
      have z2 : wr.drew.frozen? ⟨k3, 0, none⟩ = false := blk_frozen H3.out 0
      have e1 : b0 % 65536 = b0 := by have := R0.out; omega
      have e2 : b1 % 65536 = b1 := by have := R1.out; omega
      have e3 : b0 * 256 % 65536 = b0 * 256 := by have := R0.out; omega
      have e4 : (b0 * 256 + b1) % 65536 = b0 * 256 + b1 := by have := R0.out; have := R1.out; omega
      go_wp2
      go_region
      go_wp2
      go_roundw
      case rel => exact ⟨1, rfl, ⟨by decide⟩, ⟨(Below.heap_setCell wr ⟨k3, 0, none⟩ _ k1 HN3.out.1).trans H1.out, (Below.heap_setCell wr ⟨k3, 0, none⟩ _ k2 HN3.out.2).trans H2.out, blk_put H3.out 0 (.int .u16 (b0 * 256 + b1)) rfl, bdrew (HB.out.setCell HG3.out _)⟩⟩
      case measure => decide
    · have c1 : wr.drew.cell? ⟨k1, 3, none⟩ = some (.int .u8 b2) := blk_cell H1.out 3
      have c2 : wr.drew.cell? ⟨k1, 4, none⟩ = some (.int .u8 b3) := blk_cell H1.out 4
      have x2 : wr.drew.cell? ⟨k3, 1, none⟩ = some (.int .u16 0) := blk_cell H3.out 1
      have z2 : wr.drew.frozen? ⟨k3, 1, none⟩ = false := blk_frozen H3.out 1
      have e1 : b2 % 65536 = b2 := by have := R2.out; omega
      have e2 : b3 % 65536 = b3 := by have := R3.out; omega
      have e3 : b2 * 256 % 65536 = b2 * 256 := by have := R2.out; omega
      have e4 : (b2 * 256 + b3) % 65536 = b2 * 256 + b3 := by have := R2.out; have := R3.out; omega
      go_wp2
      go_region
      go_wp2
      go_roundw
      case rel => exact ⟨2, rfl, ⟨by decide⟩, ⟨(Below.heap_setCell wr ⟨k3, 1, none⟩ _ k1 HN3.out.1).trans H1.out, (Below.heap_setCell wr ⟨k3, 1, none⟩ _ k2 HN3.out.2).trans H2.out, blk_put H3.out 1 (.int .u16 (b2 * 256 + b3)) rfl, bdrew (HB.out.setCell HG3.out _)⟩⟩
      case measure => decide
    · have c1 : wr.drew.cell? ⟨k1, 5, none⟩ = some (.int .u8 b4) := blk_cell H1.out 5
      have c2 : wr.drew.cell? ⟨k1, 6, none⟩ = some (.int .u8 b5) := blk_cell H1.out 6
      have x2 : wr.drew.cell? ⟨k3, 2, none⟩ = some (.int .u16 0) := blk_cell H3.out 2
      have z2 : wr.drew.frozen? ⟨k3, 2, none⟩ = false := blk_frozen H3.out 2
      have e1 : b4 % 65536 = b4 := by have := R4.out; omega
      have e2 : b5 % 65536 = b5 := by have := R5.out; omega
      have e3 : b4 * 256 % 65536 = b4 * 256 := by have := R4.out; omega
      have e4 : (b4 * 256 + b5) % 65536 = b4 * 256 + b5 := by have := R4.out; have := R5.out; omega
      go_wp2
      go_region
      go_wp2
      go_roundw
      case rel => exact ⟨3, rfl, ⟨by decide⟩, ⟨(Below.heap_setCell wr ⟨k3, 2, none⟩ _ k1 HN3.out.1).trans H1.out, (Below.heap_setCell wr ⟨k3, 2, none⟩ _ k2 HN3.out.2).trans H2.out, blk_put H3.out 2 (.int .u16 (b4 * 256 + b5)) rfl, bdrew (HB.out.setCell HG3.out _)⟩⟩
      case measure => decide
    · have c1 : wr.drew.cell? ⟨k1, 7, none⟩ = some (.int .u8 b6) := blk_cell H1.out 7
      have c2 : wr.drew.cell? ⟨k1, 8, none⟩ = some (.int .u8 b7) := blk_cell H1.out 8
      have x2 : wr.drew.cell? ⟨k3, 3, none⟩ = some (.int .u16 0) := blk_cell H3.out 3
      have z2 : wr.drew.frozen? ⟨k3, 3, none⟩ = false := blk_frozen H3.out 3
      have e1 : b6 % 65536 = b6 := by have := R6.out; omega
      have e2 : b7 % 65536 = b7 := by have := R7.out; omega
      have e3 : b6 * 256 % 65536 = b6 * 256 := by have := R6.out; omega
      have e4 : (b6 * 256 + b7) % 65536 = b6 * 256 + b7 := by have := R6.out; have := R7.out; omega
      go_wp2
      go_region
      go_wp2
      go_roundw
      case rel => exact ⟨4, rfl, ⟨by decide⟩, ⟨(Below.heap_setCell wr ⟨k3, 3, none⟩ _ k1 HN3.out.1).trans H1.out, (Below.heap_setCell wr ⟨k3, 3, none⟩ _ k2 HN3.out.2).trans H2.out, blk_put H3.out 3 (.int .u16 (b6 * 256 + b7)) rfl, bdrew (HB.out.setCell HG3.out _)⟩⟩
      case measure => decide
    · have c1 : wr.drew.cell? ⟨k1, 9, none⟩ = some (.int .u8 b8) := blk_cell H1.out 9
      have c2 : wr.drew.cell? ⟨k1, 10, none⟩ = some (.int .u8 b9) := blk_cell H1.out 10
      have x2 : wr.drew.cell? ⟨k3, 4, none⟩ = some (.int .u16 0) := blk_cell H3.out 4
      have z2 : wr.drew.frozen? ⟨k3, 4, none⟩ = false := blk_frozen H3.out 4
      have e1 : b8 % 65536 = b8 := by have := R8.out; omega
      have e2 : b9 % 65536 = b9 := by have := R9.out; omega
      have e3 : b8 * 256 % 65536 = b8 * 256 := by have := R8.out; omega
      have e4 : (b8 * 256 + b9) % 65536 = b8 * 256 + b9 := by have := R8.out; have := R9.out; omega
      go_wp2
      go_region
      go_wp2
      go_roundw
      case rel => exact ⟨5, rfl, ⟨by decide⟩, ⟨(Below.heap_setCell wr ⟨k3, 4, none⟩ _ k1 HN3.out.1).trans H1.out, (Below.heap_setCell wr ⟨k3, 4, none⟩ _ k2 HN3.out.2).trans H2.out, blk_put H3.out 4 (.int .u16 (b8 * 256 + b9)) rfl, bdrew (HB.out.setCell HG3.out _)⟩⟩
      case measure => decide
    · have c1 : wr.drew.cell? ⟨k1, 11, none⟩ = some (.int .u8 b10) := blk_cell H1.out 11
      have c2 : wr.drew.cell? ⟨k1, 12, none⟩ = some (.int .u8 b11) := blk_cell H1.out 12
      have x2 : wr.drew.cell? ⟨k3, 5, none⟩ = some (.int .u16 0) := blk_cell H3.out 5
      have z2 : wr.drew.frozen? ⟨k3, 5, none⟩ = false := blk_frozen H3.out 5
      have e1 : b10 % 65536 = b10 := by have := R10.out; omega
      have e2 : b11 % 65536 = b11 := by have := R11.out; omega
      have e3 : b10 * 256 % 65536 = b10 * 256 := by have := R10.out; omega
      have e4 : (b10 * 256 + b11) % 65536 = b10 * 256 + b11 := by have := R10.out; have := R11.out; omega
      go_wp2
      go_region
      go_wp2
      go_roundw
      case rel => exact ⟨6, rfl, ⟨by decide⟩, ⟨(Below.heap_setCell wr ⟨k3, 5, none⟩ _ k1 HN3.out.1).trans H1.out, (Below.heap_setCell wr ⟨k3, 5, none⟩ _ k2 HN3.out.2).trans H2.out, blk_put H3.out 5 (.int .u16 (b10 * 256 + b11)) rfl, bdrew (HB.out.setCell HG3.out _)⟩⟩
      case measure => decide
    · have c1 : wr.drew.cell? ⟨k1, 13, none⟩ = some (.int .u8 b12) := blk_cell H1.out 13
      have c2 : wr.drew.cell? ⟨k1, 14, none⟩ = some (.int .u8 b13) := blk_cell H1.out 14
      have x2 : wr.drew.cell? ⟨k3, 6, none⟩ = some (.int .u16 0) := blk_cell H3.out 6
      have z2 : wr.drew.frozen? ⟨k3, 6, none⟩ = false := blk_frozen H3.out 6
      have e1 : b12 % 65536 = b12 := by have := R12.out; omega
      have e2 : b13 % 65536 = b13 := by have := R13.out; omega
      have e3 : b12 * 256 % 65536 = b12 * 256 := by have := R12.out; omega
      have e4 : (b12 * 256 + b13) % 65536 = b12 * 256 + b13 := by have := R12.out; have := R13.out; omega
      go_wp2
      go_region
      go_wp2
      go_roundw
      case rel => exact ⟨7, rfl, ⟨by decide⟩, ⟨(Below.heap_setCell wr ⟨k3, 6, none⟩ _ k1 HN3.out.1).trans H1.out, (Below.heap_setCell wr ⟨k3, 6, none⟩ _ k2 HN3.out.2).trans H2.out, blk_put H3.out 6 (.int .u16 (b12 * 256 + b13)) rfl, bdrew (HB.out.setCell HG3.out _)⟩⟩
      case measure => decide
    · have c1 : wr.drew.cell? ⟨k1, 15, none⟩ = some (.int .u8 b14) := blk_cell H1.out 15
      have c2 : wr.drew.cell? ⟨k1, 16, none⟩ = some (.int .u8 b15) := blk_cell H1.out 16
      have x2 : wr.drew.cell? ⟨k3, 7, none⟩ = some (.int .u16 0) := blk_cell H3.out 7
      have z2 : wr.drew.frozen? ⟨k3, 7, none⟩ = false := blk_frozen H3.out 7
      have e1 : b14 % 65536 = b14 := by have := R14.out; omega
      have e2 : b15 % 65536 = b15 := by have := R15.out; omega
      have e3 : b14 * 256 % 65536 = b14 * 256 := by have := R14.out; omega
      have e4 : (b14 * 256 + b15) % 65536 = b14 * 256 + b15 := by have := R14.out; have := R15.out; omega
      go_wp2
      go_region
      go_wp2
      go_roundw
      case rel => exact ⟨8, rfl, ⟨by decide⟩, ⟨(Below.heap_setCell wr ⟨k3, 7, none⟩ _ k1 HN3.out.1).trans H1.out, (Below.heap_setCell wr ⟨k3, 7, none⟩ _ k2 HN3.out.2).trans H2.out, blk_put H3.out 7 (.int .u16 (b14 * 256 + b15)) rfl, bdrew (HB.out.setCell HG3.out _)⟩⟩
      case measure => decide
    · replace H3 := Aside0.mk (show wr.heap[k3]? = some (.cells (e8 [b0 * 256 + b1, b2 * 256 + b3, b4 * 256 + b5, b6 * 256 + b7, b8 * 256 + b9, b10 * 256 + b11, b12 * 256 + b13, b14 * 256 + b15]) 76 (0, 0)) from H3.out)
      go_wp2_with (first
        | ((with_reducible refine gate_dst (N := 26) rfl ?_); refine wpList_load_row rfl 76 (.tmp 3) rfl k3 rfl 76 (e8 [b0 * 256 + b1, b2 * 256 + b3, b4 * 256 + b5, b6 * 256 + b7, b8 * 256 + b9, b10 * 256 + b11, b12 * 256 + b13, b14 * 256 + b15]) (0, 0) _ H3.out Tryz.underlying76 rfl (inf8 rfl) ?_)
        | ((with_reducible refine gate_store (t := 76) (p := 2) rfl ?_); refine wpList_store_row rfl 76 (.tmp 2) (.tmp 26) rfl k2 (e8 [b0 * 256 + b1, b2 * 256 + b3, b4 * 256 + b5, b6 * 256 + b7, b8 * 256 + b9, b10 * 256 + b11, b12 * 256 + b13, b14 * 256 + b15]) rfl rfl 76 (e8 [0, 0, 0, 0, 0, 0, 0, 0]) H2.out (inf8 rfl) rfl (e8_one _) ?_; replace H2 := Aside0.mk (row_new (cells := e8 [b0 * 256 + b1, b2 * 256 + b3, b4 * 256 + b5, b6 * 256 + b7, b8 * 256 + b9, b10 * 256 + b11, b12 * 256 + b13, b14 * 256 + b15]) H2.out); replace HB := Aside0.mk (below_row HB.out HG2.out (e8 [b0 * 256 + b1, b2 * 256 + b3, b4 * 256 + b5, b6 * 256 + b7, b8 * 256 + b9, b10 * 256 + b11, b12 * 256 + b13, b14 * 256 + b15]))))
      refine bodyPost_ret (results_cell_row rfl _ _ k2 76 (e8 [b0 * 256 + b1, b2 * 256 + b3, b4 * 256 + b5, b6 * 256 + b7, b8 * 256 + b9, b10 * 256 + b11, b12 * 256 + b13, b14 * 256 + b15]) (0, 0) _ rfl H2.out Tryz.underlying76 rfl (inf8 rfl)) rfl ?_
      exact ⟨rfl, HB.out⟩
end Go.Proofs.YthdognlkacjkhaaGreatDoor.P
