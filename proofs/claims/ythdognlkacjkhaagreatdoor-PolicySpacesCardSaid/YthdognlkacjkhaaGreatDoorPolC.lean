/-
  The example of layer 16.
-/
import Derived.Test.YthdognlkacjkhaaGreatDoorPolB
import Derived.Test.YthdognlkacjkhaaGreatDoorHeadA
namespace Go.Proofs.YthdognlkacjkhaaGreatDoor.P
open Go.RowKit Go.Proofs.YthdognlkacjkhaaGreatDoorW.PrintWords Go.Proofs.YthdognlkacjkhaaGreatDoorW.PrintLast Go.Proofs.YthdognlkacjkhaaGreatDoorW.PrintMore
set_option linter.unusedVariables false
set_option linter.unusedSimpArgs false
/-! ### strings.CutPrefix, where there is none -/
set_option maxHeartbeats 1000000 in
theorem hasPrefix_no (s p q : ByteArray) (h1 : p.size ≤ s.size) (hq : s.extract 0 p.size = q) (hne : (q.toList == p.toList) = false) (w : World) : Calls Tryz.prog 125 #[.string s, .string p] w fun e w' => e = .returned (.bool false) ∧ Below w.heap.size w w' := by
  have HB := Aside0.mk (Below.refl w.heap.size w)
  have e0 : decide ((p.size : Int) ≤ (s.size : Int)) = true := decide_eq_true (by omega)
  have e0n : decide (p.size ≤ s.size) = true := decide_eq_true h1
  have i0 : (p.size : Int) ≤ (s.size : Int) := by omega
  have i1 : (0 : Int) ≤ (p.size : Int) := Int.natCast_nonneg _
  go_enter Tryz.func125, Tryz.ntmps125
  go_wp2
  go_ret
  exact ⟨rfl, HB.out⟩
theorem cutPrefix_no' (s p q : ByteArray) (h1 : p.size ≤ s.size) (hq : s.extract 0 p.size = q) (hne : (q.toList == p.toList) = false) (w : World) : Calls Tryz.prog 110 #[.string s, .string p] w fun e w' => e = .returned (.tuple #[.string s, .bool false]) ∧ Below w.heap.size w w' := by
  have HB := Aside0.mk (Below.refl w.heap.size w)
  have HP := Aside0.mk (fun w => hasPrefix_no s p q h1 hq hne w)
  clear h1 hq hne
  go_enter Tryz.func110, Tryz.ntmps110
  go_wp2_with (first
    | (go_at_call 125; refine (HP.out _).mono ?_; rintro r w1 ⟨rfl, hb⟩; replace HB := Aside0.mk (below_step HB.out hb); clear hb))
  go_ret2
  exact ⟨rfl, HB.out⟩
theorem cutPrefix_no (s p q : ByteArray) (h1 : p.size ≤ s.size) (hq : s.extract 0 p.size = q) (hne : (q.toList == p.toList) = false) (w : World) : Calls Tryz.prog 83 #[.string s, .string p] w fun e w' => e = .returned (.tuple #[.string s, .bool false]) ∧ Below w.heap.size w w' := by
  have HB := Aside0.mk (Below.refl w.heap.size w)
  have HP := Aside0.mk (fun w => cutPrefix_no' s p q h1 hq hne w)
  clear h1 hq hne
  go_enter Tryz.func83, Tryz.ntmps83
  go_wp2_with (first
    | (go_at_call 110; refine (HP.out _).mono ?_; rintro r w1 ⟨rfl, hb⟩; replace HB := Aside0.mk (below_step HB.out hb); clear hb))
  go_ret2
  exact ⟨rfl, HB.out⟩
def exH : ByteArray := ⟨#[97, 46, 116, 101, 115, 116]⟩
def exS : ByteArray := ⟨#[104, 116, 116, 112]⟩
set_option maxHeartbeats 4000000 in
set_option maxRecDepth 100000 in
theorem literal_no (s : ByteArray) (hp : ∀ w, Calls Tryz.prog 83 #[.string s, .string ⟨#[91]⟩] w fun e w' => e = .returned (.tuple #[.string s, .bool false]) ∧ Below w.heap.size w w') (hs : ∀ w, Calls Tryz.prog 63 #[.string s] w fun e w' => e = .returned (.tuple #[.int .u32 0, .bool false]) ∧ Below w.heap.size w w') (w : World) :
    Calls Tryz.prog 53 #[.string s] w fun e w' => e = .returned (.tuple #[.agg (eA noA), .bool false]) ∧ Below w.heap.size w w' := by
  have HB := Aside0.mk (Below.refl w.heap.size w)
  have HP := Aside0.mk hp
  have HS := Aside0.mk hs
  clear hp hs
  go_enter Tryz.func53, Tryz.ntmps53
  go_wp2_with (first
    | ((with_reducible refine gate_dst (N := 2) rfl ?_); refine box_event ?hg (N := 2) ?hd (cs := eA noA) (t := 30) ?hr ?_; (case hd => rfl); (case hg => rfl); (case hr => first | (go_simp; done) | (go_simp; rfl)); intro k2 hg w2 hbox hb; have H2 := Aside0.mk hbox; have HG2 := Aside0.mk (show w.heap.size ≤ k2 by rw [hg]; exact HB.out.size); replace HB := Aside0.mk (below_step HB.out hb); clear hb hg hbox)
    | (go_at_call 83; refine (HP.out _).mono ?_; rintro r w3 ⟨rfl, hb⟩; replace H2 := Aside0.mk (blk_below H2.out hb); replace HB := Aside0.mk (below_step HB.out hb); clear hb)
    | (go_at_call 63; refine (HS.out _).mono ?_; rintro r w4 ⟨rfl, hb⟩; replace H2 := Aside0.mk (blk_below H2.out hb); replace HB := Aside0.mk (below_step HB.out hb); clear hb)
    | ((with_reducible refine gate_dst (N := 42) rfl ?_); refine wpList_buildTo rfl 30 _ rfl _ rfl (eA noA) ?hbb ?_; (case hbb => exact built_none))
    | ((with_reducible refine gate_store (t := 30) (p := 2) rfl ?_); refine wpList_store_row rfl 30 (.tmp 2) (.tmp 42) rfl k2 (eA noA) rfl rfl 30 (eA noA) H2.out (infoE ok_noA) rfl (eA_one _) ?_; replace H2 := Aside0.mk (row_new (cells := eA noA) H2.out); replace HB := Aside0.mk (below_row HB.out HG2.out (eA noA)); generalize w4.setRow k2 (eA noA) = w5 at H2 HB ⊢))
  refine bodyPost_ret (results_cell_tmp rfl _ _ k2 30 (eA noA) (0, 0) _ rfl H2.out Tryz.underlying30 rfl (infoE ok_noA)) rfl ?_
  exact ⟨rfl, HB.out⟩
theorem exH_literal (w : World) : Calls Tryz.prog 53 #[.string exH] w fun e w' => e = .returned (.tuple #[.agg (eA noA), .bool false]) ∧ Below w.heap.size w w' :=
  literal_no exH (fun w => cutPrefix_no exH ⟨#[91]⟩ ⟨#[97]⟩ (by decide) (by decide +kernel) (by decide +kernel) w) (fun w => four_Strict_no 50 exH [⟨#[97]⟩, ⟨#[116, 101, 115, 116]⟩] (by decide +kernel) (by decide) w) w
/-! ### label.Under -/
theorem label_Parent (s a b : ByteArray) (f : Bool) (h : strings_Cut.f s ⟨#[46]⟩ = some (a, b, f)) (w : World) (hmx : MaxIs w) : Calls Tryz.prog 112 #[.string s] w fun e w' => e = .returned (.string b) ∧ Below w.heap.size w w' := by
  have HB := Aside0.mk (Below.refl w.heap.size w)
  have HMX := Aside0.mk hmx
  have H := Aside0.mk h
  clear h hmx
  go_enter Tryz.func112, Tryz.ntmps112
  go_wp2_with (first
    | (go_at_call 97; refine (strings_Cut.calls s _ a b f _ (maxis_below HMX.out HB.out) H.out).mono ?_; rintro r w1 ⟨rfl, hb⟩; replace HB := Aside0.mk (below_step HB.out hb); clear hb))
  go_ret
  exact ⟨rfl, HB.out⟩
def exN : Nat → ByteArray
  | 0 => exH
  | 1 => ⟨#[116, 101, 115, 116]⟩
  | _ => ⟨#[]⟩
def strSz : Value → Nat
  | .string s => s.size
  | _ => 0
set_option maxHeartbeats 4000000 in
set_option maxRecDepth 100000 in
theorem exH_under (w : World) (hmx : MaxIs w) : Calls Tryz.prog 85 #[.string exH, .string ⟨#[108, 111, 99, 97, 108, 104, 111, 115, 116]⟩] w fun e w' => e = .returned (.bool false) ∧ Below w.heap.size w w' := by
  have HB := Aside0.mk (Below.refl w.heap.size w)
  have HMX := Aside0.mk hmx
  have HLK := Aside0.mk (show ∀ i, i ≤ 2 → text_Like.f (exN i) ⟨#[108, 111, 99, 97, 108, 104, 111, 115, 116]⟩ = some false from fun i hi => by
    match i, hi with
    | 0, _ => decide +kernel
    | 1, _ => decide +kernel
    | 2, _ => decide +kernel)
  have HPA := Aside0.mk (show ∀ i, i ≤ 1 → ∀ w, MaxIs w → Calls Tryz.prog 112 #[.string (exN i)] w fun e w' => e = .returned (.string (exN (i + 1))) ∧ Below w.heap.size w w' from fun i hi => by
    match i, hi with
    | 0, _ => exact fun w h => label_Parent (exN 0) ⟨#[97]⟩ (exN 1) true (by decide +kernel) w h
    | 1, _ => exact fun w h => label_Parent (exN 1) ⟨#[116, 101, 115, 116]⟩ (exN 2) false (by decide +kernel) w h)
  have HE := Aside0.mk (show ∀ i, i ≤ 1 → (exN i).toList.isEmpty = false from fun i hi => by
    match i, hi with
    | 0, _ => decide +kernel
    | 1, _ => decide +kernel)
  have HE2 := Aside0.mk (show (exN 2).toList.isEmpty = true by decide +kernel)
  have HSZ := Aside0.mk (show ∀ i, i ≤ 1 → (exN (i + 1)).size < (exN i).size from fun i hi => by
    match i, hi with
    | 0, _ => decide
    | 1, _ => decide)
  clear hmx
  have HX0 := Aside0.mk (show exN 0 = exH from rfl)
  generalize exN = nm at HLK HPA HE HE2 HSZ HX0
  rw [← HX0.out]
  go_enter Tryz.func85, Tryz.ntmps85
  go_wp2
  go_loopw [0] (fun v0 wr => ∃ (i : Nat) (x : ByteArray), v0 = .string x ∧ Aside0 (x = nm i) ∧ Aside0 (i ≤ 2) ∧ Aside0 (Below w.heap.size w wr)) (fun v0 _ => strSz v0)
  case atStart => exact ⟨0, _, rfl, ⟨rfl⟩, ⟨by decide⟩, HB⟩
  case round =>
    clear HB
    obtain ⟨i, x, rfl, HX, HI, HB⟩ := hrel
    have HLX := Aside0.mk (show text_Like.f x ⟨#[108, 111, 99, 97, 108, 104, 111, 115, 116]⟩ = some false by rw [HX.out]; exact HLK.out i HI.out)
    by_cases hi : i ≤ 1
    · have c0 : x.toList.isEmpty = false := by rw [HX.out]; exact HE.out i hi
      have HPX := Aside0.mk (show ∀ w, MaxIs w → Calls Tryz.prog 112 #[.string x] w fun e w' => e = .returned (.string (nm (i + 1))) ∧ Below w.heap.size w w' by rw [HX.out]; exact HPA.out i hi)
      have HS := Aside0.mk (show (nm (i + 1)).size < x.size by rw [HX.out]; exact HSZ.out i hi)
      go_wp2_with (first
        | (go_at_call 91; refine (text_Like.calls x _ false _ HLX.out).mono ?_; rintro r w1 ⟨rfl, hb⟩; replace HB := Aside0.mk (below_step HB.out hb); clear hb)
        | (go_at_call 112; refine (HPX.out _ (maxis_below HMX.out HB.out)).mono ?_; rintro r w2 ⟨rfl, hb⟩; replace HB := Aside0.mk (below_step HB.out hb); clear hb))
      go_roundw
      case rel => exact ⟨i + 1, _, rfl, ⟨rfl⟩, ⟨by omega⟩, HB⟩
      case measure => exact HS.out
    · have hi2 : i = 2 := by have := HI.out; omega
      subst hi2
      have c0 : x.toList.isEmpty = true := by rw [HX.out]; exact HE2.out
      go_wp2_with (first
        | (go_at_call 91; refine (text_Like.calls x _ false _ HLX.out).mono ?_; rintro r w1 ⟨rfl, hb⟩; replace HB := Aside0.mk (below_step HB.out hb); clear hb))
      go_ret
      exact ⟨rfl, HB.out⟩
theorem exH_local (w : World) (hmx : MaxIs w) : Calls Tryz.prog 55 #[.string exH] w fun e w' => e = .returned (.bool false) ∧ Below w.heap.size w w' := by
  have HB := Aside0.mk (Below.refl w.heap.size w)
  have HMX := Aside0.mk hmx
  clear hmx
  obtain ⟨x, hx⟩ : ∃ x, exH = x := ⟨_, rfl⟩
  have HU := Aside0.mk exH_under
  rw [hx] at HU ⊢
  clear hx
  go_enter Tryz.func55, Tryz.ntmps55
  go_wp2_with (first
    | (go_at_call 85; refine (HU.out _ (maxis_below HMX.out HB.out)).mono ?_; rintro r w1 ⟨rfl, hb⟩; replace HB := Aside0.mk (below_step HB.out hb); clear hb))
  go_ret
  exact ⟨rfl, HB.out⟩
/-! ### policy.Secure, csp.Public, policy.Make -/
theorem info_Or (sc ho : ByteArray) (n : Int) : (Tryz.prog.info? 56).map (·.size) = some (#[.string sc, .string ho, .int .i64 n] : Array Value).size := by kernel_rfl
theorem info_Pg (sc ho : ByteArray) (n m : Int) (b : Bool) : (Tryz.prog.info? 58).map (·.size) = some (#[.string sc, .string ho, .int .i64 n, .int .i64 m, .bool b] : Array Value).size := by kernel_rfl
theorem one_Or (sc ho : ByteArray) (n : Int) : (#[.string sc, .string ho, .int .i64 n] : Array Value).all (·.oneCell') = true := by kernel_rfl
theorem one_Pg (sc ho : ByteArray) (n m : Int) (b : Bool) : (#[.string sc, .string ho, .int .i64 n, .int .i64 m, .bool b] : Array Value).all (·.oneCell') = true := by kernel_rfl
theorem info_Ur (sc ho pa qu : ByteArray) (n : Int) : (Tryz.prog.info? 61).map (·.size) = some (#[.string sc, .string ho, .int .i64 n, .string pa, .string qu] : Array Value).size := by kernel_rfl
set_option maxHeartbeats 4000000 in
set_option maxRecDepth 100000 in
theorem secure_no (sc ho : ByteArray) (hsc : ¬ sc.toList = [104, 116, 116, 112, 115]) (hl : ∀ w, Calls Tryz.prog 53 #[.string ho] w fun e w' => e = .returned (.tuple #[.agg (eA noA), .bool false]) ∧ Below w.heap.size w w') (hu : ∀ w, MaxIs w → Calls Tryz.prog 55 #[.string ho] w fun e w' => e = .returned (.bool false) ∧ Below w.heap.size w w') (w : World) (hmx : MaxIs w) :
    Calls Tryz.prog 32 #[.agg #[.string sc, .string ho, .int .i64 80]] w fun e w' => e = .returned (.bool false) ∧ Below w.heap.size w w' := by
  have HB := Aside0.mk (Below.refl w.heap.size w)
  have HMX := Aside0.mk hmx
  have HL := Aside0.mk hl
  have HU := Aside0.mk hu
  have c0 : (sc.toList = [104, 116, 116, 112, 115]) = False := eq_false hsc
  have c1 : (sc.toList == [104, 116, 116, 112, 115]) = false := beq_false_of_ne hsc
  clear hmx hl hu hsc
  go_enter Tryz.func32, Tryz.ntmps32
  go_wp2_with (first
    | ((with_reducible refine gate_dst (N := 1) rfl ?_); refine box_event ?hg (N := 1) ?hd (cs := #[.string sc, .string ho, .int .i64 80]) (t := 56) ?hr ?_; (case hd => rfl); (case hg => rfl); (case hr => first | (go_simp; done) | (go_simp; rfl)); intro k1 hg w1 hbox hb; have H1 := Aside0.mk hbox; have hf1 := blk_cell H1.out 1; replace HB := Aside0.mk (below_step HB.out hb); clear hb hg hbox)
    | (go_at_call 53; refine (HL.out _).mono ?_; rintro r w2 ⟨rfl, hb⟩; clear hf1; replace H1 := Aside0.mk (blk_below H1.out hb); replace HB := Aside0.mk (below_step HB.out hb); clear hb)
    | ((with_reducible refine gate_dst (N := 3) rfl ?_); refine box_event ?hg (N := 3) ?hd (cs := eA noA) (t := 30) ?hr ?_; (case hd => rfl); (case hg => rfl); (case hr => first | (go_simp; done) | (go_simp; rfl)); intro k3 hg w3 hbox hb; have H3 := Aside0.mk hbox; have HG3 := Aside0.mk (show w.heap.size ≤ k3 by rw [hg]; exact HB.out.size); have H13 := Aside0.mk (show k1 ≠ k3 by have h1 := (Array.getElem?_eq_some_iff.1 H1.out).1; omega); replace H1 := Aside0.mk (blk_below H1.out hb); replace HB := Aside0.mk (below_step HB.out hb); clear hb hg hbox)
    | ((with_reducible refine gate_store (t := 30) (p := 3) rfl ?_); refine wpList_store_row rfl 30 (.tmp 3) (.tmp 9) rfl k3 (eA noA) rfl rfl 30 (eA noA) H3.out (infoE ok_noA) rfl (eA_one _) ?_; replace H1 := Aside0.mk ((row_far (cells := eA noA) H13.out).trans H1.out); replace HB := Aside0.mk (below_row HB.out HG3.out (eA noA)); generalize w3.setRow k3 (eA noA) = w4 at H1 HB ⊢; have hf0 := blk_cell H1.out 0; have hf1 := blk_cell H1.out 1)
    | (go_at_call 55; refine (HU.out _ (maxis_below HMX.out HB.out)).mono ?_; rintro r w5 ⟨rfl, hb⟩; clear hf0 hf1; replace HB := Aside0.mk (below_step HB.out hb); clear hb))
  go_ret
  exact ⟨rfl, HB.out⟩
set_option maxHeartbeats 4000000 in
set_option maxRecDepth 100000 in
theorem list_none (nm : ByteArray) (w : World) : Calls Tryz.prog 87 #[.slice none 0 0, .string nm] w fun e w' => e = .returned (.slice none 0 0) ∧ Below w.heap.size w w' := by
  have HB := Aside0.mk (Below.refl w.heap.size w)
  go_enter Tryz.func87, Tryz.ntmps87
  go_wp2_with (first
    | (go_at_call 113; refine (head_All.calls none 0 [] nm [] _ (Kd.C_nil _ _) (Nat.le_refl _) rfl).mono ?_; rintro r w1 ⟨v, rfl, hr, hb⟩; obtain ⟨A1, c1, rfl⟩ := Kd.R_slice hr; replace HB := Aside0.mk (below_step HB.out hb); clear hb hr))
  go_loopw [5, 14] (fun v5 v14 wr => v5 = .slice none 0 0 ∧ v14 = .int .i64 0 ∧ Aside0 (wr = w1)) (fun _ _ _ => 0)
  case atStart => exact ⟨rfl, rfl, ⟨rfl⟩⟩
  case round =>
    obtain ⟨rfl, rfl, HW⟩ := hrel
    obtain rfl := HW.out
    go_wp2
    go_ret
    exact ⟨rfl, HB.out⟩
set_option maxHeartbeats 4000000 in
set_option maxRecDepth 100000 in
theorem policies_none (w : World) : Calls Tryz.prog 57 #[.slice none 0 0] w fun e w' => e = .returned (.slice none 0 0) ∧ Below w.heap.size w w' := by
  have HB := Aside0.mk (Below.refl w.heap.size w)
  go_enter Tryz.func57, Tryz.ntmps57
  go_wp2_with (first
    | (go_at_call 87; refine (list_none _ _).mono ?_; rintro r w1 ⟨rfl, hb⟩; replace HB := Aside0.mk (below_step HB.out hb); clear hb))
  go_loopw [3, 10] (fun v3 v10 wr => v3 = .slice none 0 0 ∧ v10 = .int .i64 0 ∧ Aside0 (wr = w1)) (fun _ _ _ => 0)
  case atStart => exact ⟨rfl, rfl, ⟨rfl⟩⟩
  case round =>
    obtain ⟨rfl, rfl, HW⟩ := hrel
    obtain rfl := HW.out
    go_wp2
    go_ret
    exact ⟨rfl, HB.out⟩
set_option maxHeartbeats 4000000 in
set_option maxRecDepth 100000 in
theorem index_none (f : Value) (w : World) : Calls Tryz.prog 86 #[.slice none 0 0, f] w fun e w' => e = .returned (.int .i64 (-1)) ∧ Below w.heap.size w w' := by
  have HB := Aside0.mk (Below.refl w.heap.size w)
  go_enter Tryz.func86, Tryz.ntmps86
  go_wp2
  go_loopw [8] (fun v8 wr => v8 = .int .i64 0 ∧ Aside0 (wr = w)) (fun _ _ => 0)
  case atStart => exact ⟨rfl, ⟨rfl⟩⟩
  case round =>
    obtain ⟨rfl, HW⟩ := hrel
    obtain rfl := HW.out
    go_wp2
    go_ret
    exact ⟨rfl, HB.out⟩
theorem contains_none (f : Value) (w : World) : Calls Tryz.prog 56 #[.slice none 0 0, f] w fun e w' => e = .returned (.bool false) ∧ Below w.heap.size w w' := by
  have HB := Aside0.mk (Below.refl w.heap.size w)
  go_enter Tryz.func56, Tryz.ntmps56
  go_wp2_with (first
    | (go_at_call 86; refine (index_none _ _).mono ?_; rintro r w1 ⟨rfl, hb⟩; replace HB := Aside0.mk (below_step HB.out hb); clear hb))
  go_ret
  exact ⟨rfl, HB.out⟩
theorem public_none (w : World) : Calls Tryz.prog 33 #[.slice none 0 0] w fun e w' => e = .returned (.bool false) ∧ Below w.heap.size w w' := by
  have HB := Aside0.mk (Below.refl w.heap.size w)
  go_enter Tryz.func33, Tryz.ntmps33
  go_wp2_with (first
    | (go_at_call 57; refine (policies_none _).mono ?_; rintro r w1 ⟨rfl, hb⟩; replace HB := Aside0.mk (below_step HB.out hb); clear hb)
    | (go_at_call 56; refine (contains_none _ _).mono ?_; rintro r w2 ⟨rfl, hb⟩; replace HB := Aside0.mk (below_step HB.out hb); clear hb))
  go_ret
  exact ⟨rfl, HB.out⟩
set_option maxHeartbeats 4000000 in
set_option maxRecDepth 100000 in
theorem url_Origin (sc ho pa qu : ByteArray) (w : World) : Calls Tryz.prog 31 #[.agg #[.string sc, .string ho, .int .i64 80, .string pa, .string qu]] w fun e w' => e = .returned (.agg #[.string sc, .string ho, .int .i64 80]) ∧ Below w.heap.size w w' := by
  have HB := Aside0.mk (Below.refl w.heap.size w)
  go_enter Tryz.func31, Tryz.ntmps31
  go_wp2_with (first
    | ((with_reducible refine gate_dst (N := 1) rfl ?_); refine box_event ?hg (N := 1) ?hd (cs := #[.string sc, .string ho, .int .i64 80, .string pa, .string qu]) (t := 61) ?hr ?_; (case hd => rfl); (case hg => rfl); (case hr => first | (go_simp; done) | (go_simp; rfl)); intro k1 hg w1 hbox hb; have H1 := Aside0.mk hbox; replace HB := Aside0.mk (below_step HB.out hb); clear hb hg hbox)
    | ((with_reducible refine gate_dst (N := 2) rfl ?_); refine box_event ?hg (N := 2) ?hd (cs := #[.string ⟨#[]⟩, .string ⟨#[]⟩, .int .i64 0]) (t := 56) ?hr ?_; (case hd => rfl); (case hg => rfl); (case hr => first | (go_simp; done) | (go_simp; rfl)); intro k2 hg w2 hbox hb; have H2 := Aside0.mk hbox; have HG2 := Aside0.mk (show w.heap.size ≤ k2 by rw [hg]; exact HB.out.size); replace H1 := Aside0.mk (blk_below H1.out hb); have hf0 := blk_cell H1.out 0; have hf1 := blk_cell H1.out 1; have hf2 := blk_cell H1.out 2; replace HB := Aside0.mk (below_step HB.out hb); clear hb hg hbox)
    | ((with_reducible refine gate_dst (N := 9) rfl ?_); refine wpList_buildTo rfl 56 _ rfl _ rfl (#[.string sc, .string ho, .int .i64 80]) ?hbb ?_; (case hbb => rw [List.map_toArray]; kernel_rfl))
    | ((with_reducible refine gate_store (t := 56) (p := 2) rfl ?_); refine wpList_store_row rfl 56 (.tmp 2) (.tmp 9) rfl k2 (#[.string sc, .string ho, .int .i64 80]) rfl rfl 56 (#[.string ⟨#[]⟩, .string ⟨#[]⟩, .int .i64 0]) H2.out (info_Or sc ho 80) rfl (one_Or sc ho 80) ?_; clear hf0 hf1 hf2; replace H2 := Aside0.mk (row_new (cells := #[.string sc, .string ho, .int .i64 80]) H2.out); replace HB := Aside0.mk (below_row HB.out HG2.out (#[.string sc, .string ho, .int .i64 80])); generalize w2.setRow k2 (#[.string sc, .string ho, .int .i64 80]) = w3 at H2 HB ⊢))
  refine bodyPost_ret (results_cell_row rfl _ _ k2 56 (#[.string sc, .string ho, .int .i64 80]) (0, 0) _ rfl H2.out Tryz.underlying56 rfl (info_Or sc ho 80)) rfl ?_
  exact ⟨rfl, HB.out⟩
end Go.Proofs.YthdognlkacjkhaaGreatDoor.P
