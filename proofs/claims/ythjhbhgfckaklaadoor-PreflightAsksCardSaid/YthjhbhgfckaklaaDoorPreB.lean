/-
  preflight.headers: pairs whose values are told, as headers.
-/
import Derived.Test.YthjhbhgfckaklaaDoorFlH
import Derived.OwnWalk
import Derived.RangeFuncRecord
namespace Go.Proofs.YthjhbhgfckaklaaDoor.P
open Go.RowKit Go.Proofs.YthjhbhgfckaklaaDoorW.PrintWords Go.Proofs.YthjhbhgfckaklaaDoorW.PrintLast Go.Proofs.YthjhbhgfckaklaaDoorW.PrintMore
set_option linter.unusedVariables false
set_option linter.unusedSimpArgs false
theorem hd_cells {W : World} {vb : Nat} {a b : Value} {t : TypeId} (h : W.heap[vb]? = some (.cells #[a, b] t (0, 0))) : ∀ j u, ([a, b] : List Value)[j]? = some u → W.cell? ((⟨vb, 0, none⟩ : Addr).add j) = some u := fun j u hj => by
 rw [add_plain]
 match j, hj with
 | 0, hj => cases hj; simp [World.cell?, h]
 | 1, hj => cases hj; simp [World.cell?, h]
theorem hd_one {a b : ByteArray} : ∀ u ∈ ([.string a, .string b] : List Value), u.oneCell' = true := fun u hu => by
 rcases List.mem_cons.1 hu with rfl | hu
 ·rfl
 ·rcases List.mem_cons.1 hu with rfl | hu
  ·rfl
  ·cases hu
theorem infoH : (Tryd.prog.info? 25).map (fun i => (i.zero, i.size, i.bytes)) = some (some (.agg #[.string ⟨#[]⟩, .string ⟨#[]⟩]), 2, 32) := info25
theorem wrap_nextP (i : Nat) (h : i ≤ 1000) : wrap64 ((i : Int) + 1) = ((i + 1 : Nat) : Int) := by unfold wrap64; omega
theorem measure_nextP (L i : Nat) (z : Int) (h : z = ((i + 1 : Nat) : Int)) (hlt : i < L) : L - (intOf (.int .i64 z)).toNat < L - (intOf (.int .i64 (i : Int))).toNat := by
 subst h
 show L - (((i + 1 : Nat) : Int)).toNat < L - ((i : Nat) : Int).toNat
 rw [Int.toNat_natCast, Int.toNat_natCast]
 omega
def hdrs (l : List S90) : List S25 := (l.filter fun x => !x.f1.toList.isEmpty).map fun x => ⟨x.f0, x.f1⟩
theorem hdrs_take (l : List S90) (i : Nat) (h : i < l.length) : hdrs (l.take (i + 1)) = if l[i].f1.toList.isEmpty = true then hdrs (l.take i) else hdrs (l.take i) ++ [⟨l[i].f0, l[i].f1⟩] := by
 unfold hdrs
 rw [List.take_add_one, List.getElem?_eq_getElem h, List.filter_append, List.map_append]
 show _ ++ List.map _ (List.filter _ [l[i]]) = _
 rw [List.filter_cons]
 cases l[i].f1.toList.isEmpty <;> simp
theorem hdrs_length (l : List S90) : (hdrs l).length ≤ l.length := by unfold hdrs; rw [List.length_map]; exact List.length_filter_le ..
set_option maxHeartbeats 4000000 in
set_option maxRecDepth 100000 in
theorem headers_calls (A : Option Addr) (c : Nat) (l : List S90) (w : World) (hr : Kd.C k90 w A l.length l) (hl : l.length ≤ 1000) :
  Calls Tryd.prog 48 #[.slice A l.length c] w fun e w' => ∃ v, e = .returned v ∧ w'.ownsRow w.heap.size 25 2 v (hdrs l).length (flH (hdrs l)) ∧ Below w.heap.size w w' := by
 obtain ⟨i0, hi, hz0, hz1, hz2⟩ := info_parts infoH
 have HR := Aside0.mk hr
 have HL := Aside0.mk hl
 clear hr hl
 go_enter Tryd.func48, Tryd.ntmps48
 go_wp2
 go_loopw [3, 5, 8] (fun v3 v5 v8 wr => ∃ i : Nat, v8 = .int .i64 (i : Int) ∧ Aside0 (i ≤ l.length) ∧ Aside0 (wr.ownsRow w.heap.size 25 2 v3 (hdrs (l.take i)).length (flH (hdrs (l.take i)))) ∧ Aside0 (Below w.heap.size w wr)) (fun _ _ v8 _ => l.length - (intOf v8).toNat)
 case atStart => exact ⟨0, rfl, ⟨Nat.zero_le _⟩, ⟨own_nil _ _ _ _⟩, ⟨Below.refl _ _⟩⟩
 case round =>
  obtain ⟨i, rfl, HI, HO, HB⟩ := hrel
  by_cases hlt : i < l.length
  ·have c3b0 : decide ((i : Int) < (l.length : Int)) = true := decide_eq_true (by omega)
   have c3b1 : decide (i < l.length) = true := decide_eq_true hlt
   have c3b2 : (0 : Int) ≤ (i : Int) := Int.natCast_nonneg i
   obtain ⟨ad, e133, hx0, hx1⟩ := at_T90 HR.out (i : Int) c3b2 (by omega)
   cases e133
   replace hx0 := (HB.out.cell (World.block_lt_of_cell? w _ hx0)).trans hx0
   replace hx1 := (HB.out.cell (World.block_lt_of_cell? w _ hx1)).trans hx1
   have hrd : rd_T90 l (i : Int) = l[i] := by
    unfold rd_T90
    rw [Int.toNat_natCast, List.getD_eq_getElem?_getD, List.getElem?_eq_getElem hlt]
    rfl
   rw [hrd, Int.toNat_natCast] at hx0 hx1
   have e1 := wrap_nextP i (by have := HL.out; omega)
   have HT := Aside0.mk (hdrs_take l i hlt)
   have HLT := Aside0.mk hlt
   have HN := Aside0.mk (Nat.le_trans (hdrs_length (l.take i)) (by rw [List.length_take]; have := HL.out; omega : (l.take i).length ≤ 1000))
   obtain ⟨⟨a, b⟩, hab⟩ : ∃ x, l[i] = x := ⟨_, rfl⟩
   rw [hab] at hx0 hx1 HT
   replace c3b2 := eq_true c3b2
   clear hrd hab
   cases hb : b.toList.isEmpty with
   | true =>
    have HT2 := Aside0.mk (HT.out.trans (if_pos hb))
    go_wp2
    go_roundw
    case rel => exact ⟨i + 1, congrArg (Value.int .i64) e1, ⟨hlt⟩, ⟨by rw [HT2.out]; exact HO.out.alloc _⟩, ⟨HB.out.alloc HB.out.size _⟩⟩
    case measure => exact measure_nextP l.length i _ e1 hlt
   | false =>
    have HT2 := Aside0.mk (HT.out.trans (if_neg (show ¬ (b.toList.isEmpty = true) by rw [hb]; decide)))
    have hnw : ((wr.alloc (.cells #[.string a, .string b] 90)).alloc (.cells #[.string a, .string b] 25)).heap[wr.heap.size + 1]? = some (.cells #[.string a, .string b] 25 (0, 0)) := by
     have := World.alloc_heap_new (wr.alloc (.cells #[.string a, .string b] 90)) (.cells #[.string a, .string b] 25)
     rwa [World.size_alloc] at this
    have HNW := Aside0.mk hnw
    have hsW : wr.heap.size + 1 + 1 = ((wr.alloc (.cells #[.string a, .string b] 90)).alloc (.cells #[.string a, .string b] 25)).heap.size := by simp
    clear hnw
    go_wp2_with (at_builtin; refine wpList_append_own _ rfl _ _ 22 rfl w.heap.size 25 i0 (.agg #[.string ⟨#[]⟩, .string ⟨#[]⟩]) 2 32 Tryd.underlying22 hi hz0 hz1 hz2 rfl (by decide) _ _ _ rfl ((HO.out.alloc _).alloc _) ⟨wr.heap.size + 1, 0, none⟩ 1 1 [.string a, .string b] rfl rfl (hd_cells HNW.out) hd_one (by have := HN.out; simp only [maxLen]; omega) (by have := HN.out; omega) (by rw [← hsW]; have := HB.out.size; omega) ?_; intro v' w5 hown5 hg5 _)
    go_roundw
    case rel => exact ⟨i + 1, congrArg (Value.int .i64) e1, ⟨hlt⟩, ⟨by rw [HT2.out, flH_append, List.length_append]; exact hown5⟩, ⟨((HB.out.alloc HB.out.size _).alloc (by rw [World.size_alloc]; have := HB.out.size; omega) _).grown hg5 (by rw [← hsW]; have := HB.out.size; omega) (fun k e => own_base HO.out k e)⟩⟩
    case measure => exact measure_nextP l.length i _ e1 hlt
  ·have c3b0 : decide ((i : Int) < (l.length : Int)) = false := decide_eq_false (by omega)
   have c3b1 : decide (i < l.length) = false := decide_eq_false hlt
   have hti : l.take i = l := List.take_of_length_le (by omega)
   have ho := HO.out
   rw [hti] at ho
   have HO2 := Aside0.mk ho
   obtain ⟨A2, c2, rfl⟩ := own_slice ho
   clear ho HO hti
   go_wp2
   go_ret
   exact ⟨_, rfl, HO2.out, HB.out⟩
def preflight_headers.f (l0 : List S90) : Option (List S25) := if l0.length ≤ 1000 then some (hdrs l0) else none
theorem preflight_headers.calls (A0 : Option Addr) (c0 : Nat) (l0 : List S90) (r : List S25) (w : World) (hr0 : Kd.C k90 w A0 l0.length l0) (hc0 : l0.length ≤ c0) (h : preflight_headers.f l0 = some r) :
  Calls Tryd.prog 48 #[.slice A0 l0.length c0] w fun e w' => ∃ v0_ : Value, e = .returned v0_ ∧ Kd.R k25 25 w' w.heap.size (fun _ => True) v0_ r ∧ Below w.heap.size w w' := by
 unfold preflight_headers.f at h
 split at h
 case isFalse => exact absurd h (by simp)
 rename_i hl
 obtain rfl := Option.some.inj h
 exact (headers_calls A0 c0 l0 w hr0 hl).mono fun e w' ⟨v, he, ho, hB⟩ => ⟨v, he, R_flH ho, hB⟩
end Go.Proofs.YthjhbhgfckaklaaDoor.P
