/-
  four.Strict at texts of four pieces, and at others.
-/
import Derived.Test.YthdognlkacjkhaaGreatDoorSpaC
import Derived.Test.YthdognlkacjkhaaGreatDoorTextC
import Derived.Test.YthdognlkacjkhaaGreatDoorM14
import Derived.Test.YthdognlkacjkhaaGreatDoorM8
namespace Go.Proofs.YthdognlkacjkhaaGreatDoor.P
open Go.RowKit Go.Proofs.YthdognlkacjkhaaGreatDoorW.PrintWords Go.Proofs.YthdognlkacjkhaaGreatDoorW.PrintLast Go.Proofs.YthdognlkacjkhaaGreatDoorW.PrintMore
set_option linter.unusedVariables false
set_option linter.unusedSimpArgs false
/-- A text of two cells' worth: a row of texts, where it lies. -/
theorem strs_form {W : World} {base : Nat} {ok : Nat → Prop} {v : Value} {xs : List ByteArray} (h : Kd.R Kd.string 9 W base ok v xs) (hp : 0 < xs.length) :
    ∃ gb cap, v = .slice (some ⟨gb, 0, none⟩) xs.length cap ∧ gb < W.heap.size ∧ ∀ (i : Nat) p, xs[i]? = some p → W.cell? ⟨gb, i, none⟩ = some (.string p) := by
  obtain ⟨gb, cap, hv, hb, hlt, _⟩ := Kd.R_form h hp
  subst hv
  refine ⟨gb, cap, rfl, hlt, fun i p hi => ?_⟩
  have hlen : i < xs.length := (List.getElem?_eq_some_iff.1 hi).1
  obtain ⟨ad, ha, hc⟩ := Kd.at_string (Kd.R_reads' h).2.2 (i : Int) (by omega) (by omega)
  cases ha
  rw [Addr.add_mid, Nat.zero_add] at hc
  rw [show ((i : Int).toNat) = i by omega] at hc
  rw [hc]
  unfold rdOf
  simp [hi]
/-- A piece that is a number of at most 255, without zeros ahead. -/
structure Numb (p : ByteArray) (n : Int) : Prop where
  num : text_Number.f p 10 = some (n, true)
  dec : text_Decimal.f n = some p
  lo : 0 ≤ n
  hi : n ≤ 255
set_option maxHeartbeats 2000000 in
set_option maxRecDepth 100000 in
theorem four_Strict_no (k : Nat) (s : ByteArray) (l : List ByteArray) (hs : text_Split.f k s 46 = some l) (hl : l.length ≠ 4) (w : World) :
    Calls Tryz.prog 63 #[.string s] w fun e w' => e = .returned (.tuple #[.int .u32 0, .bool false]) ∧ Below w.heap.size w w' := by
  have HB := Aside0.mk (Below.refl w.heap.size w)
  have HS := Aside0.mk hs
  have c4 : ((l.length : Int) == 4) = false := by rw [beq_eq_false_iff_ne]; omega
  clear hs hl
  go_enter Tryz.func63, Tryz.ntmps63
  go_wp2_with (first
    | (go_at_call 94; refine (text_Split.calls k s 46 l _ HS.out).mono ?_; rintro e w2 ⟨v, rfl, hR, hb⟩; obtain ⟨A, c, rfl⟩ := Kd.R_slice hR; replace HB := Aside0.mk (below_step (bel_later HB.out) hb); clear hb hR)
    | ((with_reducible refine gate_dst (N := 5) rfl ?_); refine box_event ?hg (N := 5) ?hd (cs := b4L [0, 0, 0, 0]) (t := 143) ?hr ?_; (case hd => rfl); (case hg => rfl); (case hr => first | (go_simp; done) | (go_simp; rfl)); intro g5 hg w3 hbox hb; replace HB := Aside0.mk (below_step (bel_later HB.out) hb); clear hb hg hbox))
  go_ret2
  exact ⟨rfl, HB.out⟩
theorem bel_from {B : Nat} {w W : World} (h : Below B w W) (hB : B = w.heap.size := by rfl) : Below w.heap.size w W := hB ▸ h
theorem infoB4L {a b c d : Int} : (Tryz.prog.info? 143).map (·.size) = some (b4L [a, b, c, d]).size := by
  have h : (Tryz.prog.info? 143).map (·.size) = some 4 := by kernel_rfl
  rw [h]
  rfl
theorem four_range {p0 p1 p2 p3 : ByteArray} {n0 n1 n2 n3 : Int} (h0 : Numb p0 n0) (h1 : Numb p1 n1) (h2 : Numb p2 n2) (h3 : Numb p3 n3) : ∀ i, 0 ≤ byt [n0, n1, n2, n3] i ∧ byt [n0, n1, n2, n3] i ≤ 255 := fun i => by
  match i with
  | 0 => exact ⟨h0.lo, h0.hi⟩
  | 1 => exact ⟨h1.lo, h1.hi⟩
  | 2 => exact ⟨h2.lo, h2.hi⟩
  | 3 => exact ⟨h3.lo, h3.hi⟩
  | n + 4 => exact ⟨by simp [byt], by simp [byt]⟩
set_option maxHeartbeats 4000000 in
set_option maxRecDepth 100000 in
theorem four_Strict_yes (k : Nat) (s p0 p1 p2 p3 : ByteArray) (n0 n1 n2 n3 : Int) (hs : text_Split.f k s 46 = some [p0, p1, p2, p3]) (h0 : Numb p0 n0) (h1 : Numb p1 n1) (h2 : Numb p2 n2) (h3 : Numb p3 n3) (w : World) (hmx : MaxIs w) :
    Calls Tryz.prog 63 #[.string s] w fun e w' => e = .returned (.tuple #[.int .u32 (fourN [n0, n1, n2, n3] 4), .bool true]) ∧ Below w.heap.size w w' := by
  have HB := Aside0.mk (Below.refl w.heap.size w)
  have HMX := Aside0.mk hmx
  have HS := Aside0.mk hs
  have H0 := Aside0.mk h0
  have H1 := Aside0.mk h1
  have H2 := Aside0.mk h2
  have H3 := Aside0.mk h3
  clear hs hmx h0 h1 h2 h3
  go_enter Tryz.func63, Tryz.ntmps63
  go_wp2_with (first
    | (go_at_call 94; refine (text_Split.calls k s 46 [p0, p1, p2, p3] _ HS.out).mono ?_; rintro e w2 ⟨v, rfl, hR, hb⟩; obtain ⟨gb, cap, rfl, hlt, hcs⟩ := strs_form hR (Nat.succ_pos _); have HC := Aside0.mk hcs; have HLT := Aside0.mk hlt; replace HB := Aside0.mk (below_step (bel_later HB.out) hb); clear hb hR hcs hlt)
    | ((with_reducible refine gate_dst (N := 5) rfl ?_); refine box_event ?hg (N := 5) ?hd (cs := b4L [0, 0, 0, 0]) (t := 143) ?hr ?_; (case hd => rfl); (case hg => rfl); (case hr => first | (go_simp; done) | (go_simp; rfl)); intro g5 hg w3 hbox hb; have HX := Aside0.mk hbox; have HN := Aside0.mk (show gb ≠ g5 by have := HLT.out; omega); have HG5 := Aside0.mk (show w.heap.size ≤ g5 by rw [hg]; exact below_size (bel_later HB.out)); replace HC := Aside0.mk (fun (i : Nat) p hi => cell_below (HC.out i p hi) hb); replace HB := Aside0.mk (below_step (bel_later HB.out) hb); clear hb hg hbox))
  go_loopw [17] (fun v17 wr => ∃ i : Nat, v17 = .int .i64 (i : Int) ∧ Aside0 (i ≤ 4) ∧ Aside0 (wr.heap[g5]? = some (.cells (b4L (if i = 0 then [0, 0, 0, 0] else if i = 1 then [n0, 0, 0, 0] else if i = 2 then [n0, n1, 0, 0] else if i = 3 then [n0, n1, n2, 0] else [n0, n1, n2, n3])) 143 (0, 0)) ∧ (∀ (i : Nat) p, ([p0, p1, p2, p3] : List ByteArray)[i]? = some p → wr.cell? ⟨gb, i, none⟩ = some (.string p)) ∧ Below w.heap.size w wr)) (fun v17 _ => 4 - (intOf v17).toNat)
  case atStart => exact ⟨0, rfl, ⟨by omega⟩, ⟨HX.out, HC.out, HB.out⟩⟩
  case round =>
    obtain ⟨i, rfl, HI, HE⟩ := hrel
    clear HX HC HB
    have HX := Aside0.mk HE.out.1
    have HC := Aside0.mk HE.out.2.1
    have HB := Aside0.mk HE.out.2.2
    clear HE
    have hi3 : i = 0 ∨ i = 1 ∨ i = 2 ∨ i = 3 ∨ i = 4 := by have := HI.out; omega
    rcases hi3 with rfl | rfl | rfl | rfl | rfl
    · have cp : wr.cell? ⟨gb, 0, none⟩ = some (.string p0) := HC.out 0 _ rfl
      have HX0 := Aside0.mk (show wr.heap[g5]? = some (.cells (b4L [0, 0, 0, 0]) 143 (0, 0)) from HX.out)
      have d0 : decide (255 < n0) = false := decide_eq_false (by have := H0.out.hi; omega)
      have ew : n0 % 256 = n0 := by have := H0.out.hi; have := H0.out.lo; omega
      clear HX
      go_wp2_with (first
        | (go_at_call 38; refine (text_Number.calls p0 10 n0 true _ H0.out.num).mono ?_; rintro e w6 ⟨rfl, hb⟩; replace HX0 := Aside0.mk (blk_below HX0.out hb); replace HC := Aside0.mk (fun (i : Nat) p hi => cell_below (HC.out i p hi) hb); replace HB := Aside0.mk (below_step HB.out hb); clear hb)
        | (go_at_call 39; refine (text_Decimal.calls n0 p0 _ (maxis_below HMX.out (bel_from HB.out)) H0.out.dec).mono ?_; rintro e w7 ⟨rfl, hb⟩; replace HX0 := Aside0.mk (blk_below HX0.out hb); replace HC := Aside0.mk (fun (i : Nat) p hi => cell_below (HC.out i p hi) hb); replace HB := Aside0.mk (below_step HB.out hb); have hfz := blk_frozen HX0.out 0; have hcx : w7.cell? ⟨g5, 0, none⟩ = some (.int .u8 0) := blk_cell HX0.out 0; clear hb))
      go_roundw
      case rel => exact ⟨1, rfl, ⟨by decide⟩, ⟨by first | exact blk_put HX0.out 0 (.int .u8 n0) rfl, fun j p hj => (World.cell?_of_block (Below.heap_setCell w7 ⟨g5, 0, none⟩ _ gb HN.out)).trans (HC.out j p hj), HB.out.setCell HG5.out _⟩⟩
      case measure => decide
    · have cp : wr.cell? ⟨gb, 1, none⟩ = some (.string p1) := HC.out 1 _ rfl
      have HX0 := Aside0.mk (show wr.heap[g5]? = some (.cells (b4L [n0, 0, 0, 0]) 143 (0, 0)) from HX.out)
      have d0 : decide (255 < n1) = false := decide_eq_false (by have := H1.out.hi; omega)
      have ew : n1 % 256 = n1 := by have := H1.out.hi; have := H1.out.lo; omega
      clear HX
      go_wp2_with (first
        | (go_at_call 38; refine (text_Number.calls p1 10 n1 true _ H1.out.num).mono ?_; rintro e w6 ⟨rfl, hb⟩; replace HX0 := Aside0.mk (blk_below HX0.out hb); replace HC := Aside0.mk (fun (i : Nat) p hi => cell_below (HC.out i p hi) hb); replace HB := Aside0.mk (below_step HB.out hb); clear hb)
        | (go_at_call 39; refine (text_Decimal.calls n1 p1 _ (maxis_below HMX.out (bel_from HB.out)) H1.out.dec).mono ?_; rintro e w7 ⟨rfl, hb⟩; replace HX0 := Aside0.mk (blk_below HX0.out hb); replace HC := Aside0.mk (fun (i : Nat) p hi => cell_below (HC.out i p hi) hb); replace HB := Aside0.mk (below_step HB.out hb); have hfz := blk_frozen HX0.out 1; have hcx : w7.cell? ⟨g5, 1, none⟩ = some (.int .u8 0) := blk_cell HX0.out 1; clear hb))
      go_roundw
      case rel => exact ⟨2, rfl, ⟨by decide⟩, ⟨by first | exact blk_put HX0.out 1 (.int .u8 n1) rfl, fun j p hj => (World.cell?_of_block (Below.heap_setCell w7 ⟨g5, 1, none⟩ _ gb HN.out)).trans (HC.out j p hj), HB.out.setCell HG5.out _⟩⟩
      case measure => decide
    · have cp : wr.cell? ⟨gb, 2, none⟩ = some (.string p2) := HC.out 2 _ rfl
      have HX0 := Aside0.mk (show wr.heap[g5]? = some (.cells (b4L [n0, n1, 0, 0]) 143 (0, 0)) from HX.out)
      have d0 : decide (255 < n2) = false := decide_eq_false (by have := H2.out.hi; omega)
      have ew : n2 % 256 = n2 := by have := H2.out.hi; have := H2.out.lo; omega
      clear HX
      go_wp2_with (first
        | (go_at_call 38; refine (text_Number.calls p2 10 n2 true _ H2.out.num).mono ?_; rintro e w6 ⟨rfl, hb⟩; replace HX0 := Aside0.mk (blk_below HX0.out hb); replace HC := Aside0.mk (fun (i : Nat) p hi => cell_below (HC.out i p hi) hb); replace HB := Aside0.mk (below_step HB.out hb); clear hb)
        | (go_at_call 39; refine (text_Decimal.calls n2 p2 _ (maxis_below HMX.out (bel_from HB.out)) H2.out.dec).mono ?_; rintro e w7 ⟨rfl, hb⟩; replace HX0 := Aside0.mk (blk_below HX0.out hb); replace HC := Aside0.mk (fun (i : Nat) p hi => cell_below (HC.out i p hi) hb); replace HB := Aside0.mk (below_step HB.out hb); have hfz := blk_frozen HX0.out 2; have hcx : w7.cell? ⟨g5, 2, none⟩ = some (.int .u8 0) := blk_cell HX0.out 2; clear hb))
      go_roundw
      case rel => exact ⟨3, rfl, ⟨by decide⟩, ⟨by first | exact blk_put HX0.out 2 (.int .u8 n2) rfl, fun j p hj => (World.cell?_of_block (Below.heap_setCell w7 ⟨g5, 2, none⟩ _ gb HN.out)).trans (HC.out j p hj), HB.out.setCell HG5.out _⟩⟩
      case measure => decide
    · have cp : wr.cell? ⟨gb, 3, none⟩ = some (.string p3) := HC.out 3 _ rfl
      have HX0 := Aside0.mk (show wr.heap[g5]? = some (.cells (b4L [n0, n1, n2, 0]) 143 (0, 0)) from HX.out)
      have d0 : decide (255 < n3) = false := decide_eq_false (by have := H3.out.hi; omega)
      have ew : n3 % 256 = n3 := by have := H3.out.hi; have := H3.out.lo; omega
      clear HX
      go_wp2_with (first
        | (go_at_call 38; refine (text_Number.calls p3 10 n3 true _ H3.out.num).mono ?_; rintro e w6 ⟨rfl, hb⟩; replace HX0 := Aside0.mk (blk_below HX0.out hb); replace HC := Aside0.mk (fun (i : Nat) p hi => cell_below (HC.out i p hi) hb); replace HB := Aside0.mk (below_step HB.out hb); clear hb)
        | (go_at_call 39; refine (text_Decimal.calls n3 p3 _ (maxis_below HMX.out (bel_from HB.out)) H3.out.dec).mono ?_; rintro e w7 ⟨rfl, hb⟩; replace HX0 := Aside0.mk (blk_below HX0.out hb); replace HC := Aside0.mk (fun (i : Nat) p hi => cell_below (HC.out i p hi) hb); replace HB := Aside0.mk (below_step HB.out hb); have hfz := blk_frozen HX0.out 3; have hcx : w7.cell? ⟨g5, 3, none⟩ = some (.int .u8 0) := blk_cell HX0.out 3; clear hb))
      go_roundw
      case rel => exact ⟨4, rfl, ⟨by decide⟩, ⟨by first | exact blk_put HX0.out 3 (.int .u8 n3) rfl, fun j p hj => (World.cell?_of_block (Below.heap_setCell w7 ⟨g5, 3, none⟩ _ gb HN.out)).trans (HC.out j p hj), HB.out.setCell HG5.out _⟩⟩
      case measure => decide
    · go_wp2_with (first
        | ((with_reducible refine gate_dst (N := 44) rfl ?_); refine wpList_load_row rfl 143 (.tmp 5) rfl g5 rfl 143 (b4L [n0, n1, n2, n3]) (0, 0) _ HX.out Tryz.underlying143 rfl infoB4L ?_)
        | (go_at_call 95; refine (four_Of [n0, n1, n2, n3] (four_range H0.out H1.out H2.out H3.out) _).mono ?_; rintro e w8 ⟨rfl, hb⟩; replace HB := Aside0.mk (below_step HB.out hb); clear hb))
      go_ret2
      exact ⟨rfl, HB.out⟩
end Go.Proofs.YthdognlkacjkhaaGreatDoor.P
