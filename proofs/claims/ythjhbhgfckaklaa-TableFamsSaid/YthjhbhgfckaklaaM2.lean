/-
  Texts of the proof, put together.
-/
import Derived.Test.YthjhbhgfckaklaaM1
import Derived.Great.BuildSlice
import Derived.Deep.RegionHeld2
section
namespace Go.Proofs.Ythjhbhgfckaklaa.P
open Go.RowKit Go.Proofs.YthjhbhgfckaklaaW.PrintWords Go.Proofs.YthjhbhgfckaklaaW.PrintLast Go.Proofs.YthjhbhgfckaklaaW.PrintMore
set_option linter.unusedVariables false
set_option linter.unusedSimpArgs false
structure Pf where
  a : Ad
  n : Int
def eP (p : Pf) : Array Value := (lA p.a ++ [Value.int .i64 p.n]).toArray
def noP : Pf := ⟨noA, 0⟩
theorem lA_len {a : Ad} (h : a.ok) : (lA a).length = 17 := by unfold lA; simp [h.1]
theorem eP_size {p : Pf} (h : p.a.ok) : (eP p).size = 18 := by unfold eP; simp [lA_len h]
theorem eP_one (p : Pf) : (eP p).all (·.oneCell') = true := by
  unfold eP
  rw [Array.all_eq_true_iff_forall_mem]
  intro v hv
  rcases List.mem_append.1 (List.mem_toArray.1 hv) with h | h
  · exact (Array.all_eq_true_iff_forall_mem.1 (eA_one p.a)) v (by unfold eA; exact List.mem_toArray.2 h)
  · rw [List.mem_singleton.1 h]; rfl
theorem eP_fam (p : Pf) : (eP p)[0]? = some (.int .i64 p.a.fam) := rfl
theorem eP_n {p : Pf} (h : p.a.ok) : (eP p)[17]? = some (.int .i64 p.n) := by
  unfold eP
  rw [List.getElem?_toArray, List.getElem?_append_right (by rw [lA_len h]; exact Nat.le_refl _), lA_len h]
  rfl
theorem infoP : (Try.prog.info? 39).map (·.size) = some 18 := by kernel_rfl
theorem infoEP {p : Pf} (h : p.a.ok) : (Try.prog.info? 39).map (·.size) = some (eP p).size := by rw [eP_size h]; exact infoP
theorem infoL {a : Ad} (h : a.ok) : (Try.prog.info? 34).map (·.size) = some (lA a).length := by rw [lA_len h]; exact infoA
theorem part_addr {w : World} {g : Nat} {p : Pf} {t : TypeId} (hg : w.heap[g]? = some (.cells (eP p) t (0, 0))) : w.rangeAt g 0 (lA p.a) := fun j v hv => by
  rw [Nat.zero_add, cell_of_row w g j (eP p) t (0, 0) hg]
  unfold eP
  rw [List.getElem?_toArray, List.getElem?_append_left (List.getElem?_eq_some_iff.1 hv).1]
  exact hv
theorem built_pf16 (f n b0 b1 b2 b3 b4 b5 b6 b7 b8 b9 b10 b11 b12 b13 b14 b15 : Int) : Try.prog.built 39 [(0, .agg (eA ⟨f, [b0, b1, b2, b3, b4, b5, b6, b7, b8, b9, b10, b11, b12, b13, b14, b15]⟩)), (1, .int .i64 n)] = some (eP ⟨⟨f, [b0, b1, b2, b3, b4, b5, b6, b7, b8, b9, b10, b11, b12, b13, b14, b15]⟩, n⟩) := by kernel_rfl
theorem built_pf {a : Ad} (h : a.ok) (n : Int) : Try.prog.built 39 [(0, .agg (eA a)), (1, .int .i64 n)] = some (eP ⟨a, n⟩) := by
  obtain ⟨f, bs⟩ := a
  match bs, h.1 with
  | [b0, b1, b2, b3, b4, b5, b6, b7, b8, b9, b10, b11, b12, b13, b14, b15], _ => exact built_pf16 f n b0 b1 b2 b3 b4 b5 b6 b7 b8 b9 b10 b11 b12 b13 b14 b15
/-! ### regions that draw their order, with whole loads beside calls -/
section
variable {P : Program} {ops : Array Oper} {Q : Exit → Act → World → Prop} {md : Region.Mode} {S : World → Prop}
theorem yields_row {op : Oper} {a : Act} (hw : Region.wanted op (yielded ops a.tmps) = true) (ty : TypeId) (x : Operand) (ho : op.op = .load ty x) (g : Nat) (hx : a.eval x = .pointer (some ⟨g, 0, none⟩)) (t : TypeId) (cs : Array Value) (fr : Nat × Nat) (d : TypeDesc)
    (hS : ∀ w, S w → w.heap[g]? = some (.cells cs t fr)) (hu : P.underlying ty = some d) (hd : (match d with | .struct _ | .array _ _ => true | _ => false) = true) (hi : (P.info? ty).map (·.size) = some cs.size) : YieldsIf P ops S op (.agg cs) a :=
  .inl ⟨hw, fun w hw' => by
    unfold execOp
    simp only [ho, hx, Instr.loadAt, Instr.sureAddr, Sem.run_bind, Sem.run_pure, Result.andThen_ok, run_loadVar_row w g t ty cs fr d (hS w hw') hu hd hi]⟩
theorem held_step {i : Nat} {o : Oper} {fuel : Nat} {listed : Array Bool} {a : Act} {w : World} (hr : Region.ready md ops listed = [i]) (ho : ops[i]? = some o) (hw : Region.wanted o (yielded ops a.tmps) = true)
    (h : ∀ K' : Act → World → Prop, Shut (∀ a' w', S w' → wpAnyH P md ops Q S fuel (listed.setIfInBounds i true) a' w' → K' a' w') → Oper.wp P o a w K' Q) : wpAnyH P md ops Q S (fuel + 1) listed a w :=
  wpAnyH_ready hr (by simp) (AllReadyH.cons ho (fun K' hK => by
    rw [if_pos hw]
    exact h K' (fun a' w' hS hW => hK.out a' w' hS (fun _ => hW))) AllReadyH.nil)
end
/-! ### a number below another -/
/-! ### an address cut down to so many bits -/
def maskN (a : Ad) (n : Int) : Int := if bitsOf a.fam < (if n < 0 then 0 else n) then bitsOf a.fam else (if n < 0 then 0 else n)
def maskP (a : Ad) (n : Int) : Pf := ⟨withA a (maskN a n) 0, maskN a n⟩
theorem ok_maskP (a : Ad) (n : Int) : (maskP a n).a.ok := ok_withA _ _ _
set_option maxHeartbeats 4000000 in
set_option maxRecDepth 100000 in
theorem ref05_Mask (a : Ad) (ha : a.ok) (n : Int) (w : World) : Calls Try.prog 19 #[.agg (eA a), .int .i64 n] w fun e w' => e = .returned (.agg (eP (maskP a n))) ∧ Below w.heap.size w w' := by
  have HB := Aside0.mk (Below.refl w.heap.size w)
  have HA := Aside0.mk ha
  have HM := Aside0.mk (show (if bitsOf a.fam < (if n < 0 then 0 else n) then bitsOf a.fam else (if n < 0 then 0 else n)) = maskN a n from rfl)
  clear ha
  go_enter Try.func19, Try.ntmps19
  go_wp2_with (first
    | ((with_reducible refine gate_dst (N := 2) rfl ?_); refine box_event ?hg (N := 2) ?hd (cs := eA a) (t := 34) ?hr ?_; (case hd => rfl); (case hg => rfl); (case hr => first | (go_simp; done) | (go_simp; rfl)); intro g2 hg w1 hbox hb; have HX := Aside0.mk hbox; replace HB := Aside0.mk (below_step (bel_later HB.out) hb); clear hb hg hbox)
    | ((with_reducible refine gate_dst (N := 4) rfl ?_); refine box_event ?hg (N := 4) ?hd (cs := eP noP) (t := 39) ?hr ?_; (case hd => rfl); (case hg => rfl); (case hr => first | (go_simp; done) | (go_simp; rfl)); intro g4 hg w2 hbox hb; have HY := Aside0.mk hbox; have HG4 := Aside0.mk (show w.heap.size ≤ g4 by rw [hg]; exact below_size (bel_later HB.out)); replace HX := Aside0.mk (blk_below (blk_later HX.out) hb); replace HB := Aside0.mk (below_step (bel_later HB.out) hb); clear hb hg hbox)
    | ((with_reducible refine gate_dst (N := 8) rfl ?_); refine wpList_load_row rfl 34 (.tmp 2) rfl g2 rfl 34 (eA a) (0, 0) _ HX.out Try.underlying34 rfl (infoE HA.out) ?_)
    | (go_at_call 43; refine (ref04_Bits a w2).mono ?_; rintro e w3 ⟨rfl, hb⟩; have HX3 := Aside0.mk (blk_below HX.out hb); have HY3 := Aside0.mk (blk_below HY.out hb); have HB3 := Aside0.mk (below_step HB.out hb); clear hb)
    | ((with_reducible refine gate_dst (N := 11) rfl ?_); refine wpList_load_row rfl 34 (.tmp 2) rfl g2 rfl 34 (eA a) (0, 0) _ HX3.out Try.underlying34 rfl (infoE HA.out) ?_)
    | (go_at_call 44; rw [HM.out]; refine (ref05_With a HA.out (maskN a n) 0 w3).mono ?_; rintro e w4 ⟨rfl, hb⟩; have HY4 := Aside0.mk (blk_below HY3.out hb); have HB4 := Aside0.mk (below_step HB3.out hb); clear hb)
    | ((with_reducible refine gate_dst (N := 15) rfl ?_); refine wpList_buildTo rfl 39 _ rfl _ rfl (eP (maskP a n)) ?hbb ?_; (case hbb => rw [List.map_toArray]; exact built_pf (ok_withA a (maskN a n) 0) (maskN a n)))
    | ((with_reducible refine gate_store (t := 39) (p := 4) rfl ?_); refine wpList_store_row rfl 39 (.tmp 4) (.tmp 15) rfl g4 (eP (maskP a n)) rfl rfl 39 (eP noP) HY4.out (infoEP (ok_maskP a n)) ((eP_size (p := noP) ok_noA).trans (eP_size (ok_maskP a n)).symm) (eP_one _) ?_; have HY5 := Aside0.mk (row_new (cells := eP (maskP a n)) HY4.out); have HB5 := Aside0.mk (below_row HB4.out HG4.out (eP (maskP a n)))))
  all_goals
    refine bodyPost_ret (results_cell_row rfl _ _ g4 39 (eP (maskP a n)) (0, 0) _ rfl HY5.out Try.underlying39 rfl (infoEP (ok_maskP a n))) rfl ?_
    exact ⟨rfl, HB5.out⟩
def hasP (p : Pf) (a : Ad) : Prop := p.a.fam = a.fam ∧ ∀ j : Nat, (j : Int) < p.n → bitA p.a j = bitA a j
def hasB (p : Pf) (a : Ad) : Bool := decide (p.a.fam = a.fam) && (List.range p.n.toNat).all fun j => decide (bitA p.a j = bitA a j)
theorem hasB_iff (p : Pf) (a : Ad) : hasB p a = true ↔ hasP p a := by
  unfold hasB hasP
  simp only [Bool.and_eq_true, decide_eq_true_eq, List.all_eq_true, List.mem_range]
  exact ⟨fun ⟨h1, h2⟩ => ⟨h1, fun j hj => h2 j (by omega)⟩, fun ⟨h1, h2⟩ => ⟨h1, fun j hj => h2 j (by omega)⟩⟩
def cmpP (p q : Pf) : Int := if cmpA p.a q.a ≠ 0 then cmpA p.a q.a else if p.n < q.n then -1 else if q.n < p.n then 1 else 0
/-- Are so many bytes from a place on all 0? -/
def zerB (l : List Int) : Nat → Nat → Bool
  | 0, _ => true
  | d + 1, i => byt l i == 0 && zerB l d (i + 1)
def fromA (f : Int) : Nat := if f = 0 then 0 else if f = 4 then 4 else 16
def famB (f : Int) : Bool := f == 0 || f == 4 || f == 6
def mayA (a : Ad) : Bool := zerB a.bs (16 - fromA a.fam) (fromA a.fam) && famB a.fam
end Go.Proofs.Ythjhbhgfckaklaa.P
end
