/-
  Texts of the proof, put together.
-/
import Derived.Test.YtjilnigmbnmlfaaDoorM2
import Derived.Great.BuildSlice
import Derived.Deep.RegionHeld2
section
namespace Go.Proofs.YtjilnigmbnmlfaaDoor.P
open Go.RowKit Go.Proofs.YtjilnigmbnmlfaaDoorW.PrintWords Go.Proofs.YtjilnigmbnmlfaaDoorW.PrintLast Go.Proofs.YtjilnigmbnmlfaaDoorW.PrintMore
set_option linter.unusedVariables false
set_option linter.unusedSimpArgs false
structure Pf where
  a : Ad
  n : Int
def eP (p : Pf) : Array Value := (lA p.a ++ [Value.int .i64 p.n]).toArray
def noP : Pf := ⟨noA, 0⟩
theorem lA_len {a : Ad} (h : a.ok) : (lA a).length = 17 := by unfold lA; simp [h.1]
theorem eP_size {p : Pf} (h : p.a.ok) : (eP p).size = 18 := by unfold eP; simp [lA_len h]
theorem eP_one (p : Pf) : (eP p).all (·.oneCell') = true := by
  unfold eP
  rw [Array.all_eq_true_iff_forall_mem]
  intro v hv
  rcases List.mem_append.1 (List.mem_toArray.1 hv) with h | h
  · exact (Array.all_eq_true_iff_forall_mem.1 (eA_one p.a)) v (by unfold eA; exact List.mem_toArray.2 h)
  · rw [List.mem_singleton.1 h]; rfl
theorem eP_fam (p : Pf) : (eP p)[0]? = some (.int .i64 p.a.fam) := rfl
theorem eP_n {p : Pf} (h : p.a.ok) : (eP p)[17]? = some (.int .i64 p.n) := by
  unfold eP
  rw [List.getElem?_toArray, List.getElem?_append_right (by rw [lA_len h]; exact Nat.le_refl _), lA_len h]
  rfl
theorem infoP : (Tryd.prog.info? 35).map (·.size) = some 18 := by kernel_rfl
theorem infoEP {p : Pf} (h : p.a.ok) : (Tryd.prog.info? 35).map (·.size) = some (eP p).size := by rw [eP_size h]; exact infoP
theorem infoL {a : Ad} (h : a.ok) : (Tryd.prog.info? 28).map (·.size) = some (lA a).length := by rw [lA_len h]; exact infoA
theorem part_addr {w : World} {g : Nat} {p : Pf} {t : TypeId} (hg : w.heap[g]? = some (.cells (eP p) t (0, 0))) : w.rangeAt g 0 (lA p.a) := fun j v hv => by
  rw [Nat.zero_add, cell_of_row w g j (eP p) t (0, 0) hg]
  unfold eP
  rw [List.getElem?_toArray, List.getElem?_append_left (List.getElem?_eq_some_iff.1 hv).1]
  exact hv
theorem built_pf16 (f n b0 b1 b2 b3 b4 b5 b6 b7 b8 b9 b10 b11 b12 b13 b14 b15 : Int) : Tryd.prog.built 35 [(0, .agg (eA ⟨f, [b0, b1, b2, b3, b4, b5, b6, b7, b8, b9, b10, b11, b12, b13, b14, b15]⟩)), (1, .int .i64 n)] = some (eP ⟨⟨f, [b0, b1, b2, b3, b4, b5, b6, b7, b8, b9, b10, b11, b12, b13, b14, b15]⟩, n⟩) := by kernel_rfl
theorem built_pf {a : Ad} (h : a.ok) (n : Int) : Tryd.prog.built 35 [(0, .agg (eA a)), (1, .int .i64 n)] = some (eP ⟨a, n⟩) := by
  obtain ⟨f, bs⟩ := a
  match bs, h.1 with
  | [b0, b1, b2, b3, b4, b5, b6, b7, b8, b9, b10, b11, b12, b13, b14, b15], _ => exact built_pf16 f n b0 b1 b2 b3 b4 b5 b6 b7 b8 b9 b10 b11 b12 b13 b14 b15
/-! ### regions that draw their order, with whole loads beside calls -/
section
variable {P : Program} {ops : Array Oper} {Q : Exit → Act → World → Prop} {md : Region.Mode} {S : World → Prop}
theorem yields_row {op : Oper} {a : Act} (hw : Region.wanted op (yielded ops a.tmps) = true) (ty : TypeId) (x : Operand) (ho : op.op = .load ty x) (g : Nat) (hx : a.eval x = .pointer (some ⟨g, 0, none⟩)) (t : TypeId) (cs : Array Value) (fr : Nat × Nat) (d : TypeDesc)
    (hS : ∀ w, S w → w.heap[g]? = some (.cells cs t fr)) (hu : P.underlying ty = some d) (hd : (match d with | .struct _ | .array _ _ => true | _ => false) = true) (hi : (P.info? ty).map (·.size) = some cs.size) : YieldsIf P ops S op (.agg cs) a :=
  .inl ⟨hw, fun w hw' => by
    unfold execOp
    simp only [ho, hx, Instr.loadAt, Instr.sureAddr, Sem.run_bind, Sem.run_pure, Result.andThen_ok, run_loadVar_row w g t ty cs fr d (hS w hw') hu hd hi]⟩
theorem held_step {i : Nat} {o : Oper} {fuel : Nat} {listed : Array Bool} {a : Act} {w : World} (hr : Region.ready md ops listed = [i]) (ho : ops[i]? = some o) (hw : Region.wanted o (yielded ops a.tmps) = true)
    (h : ∀ K' : Act → World → Prop, Shut (∀ a' w', S w' → wpAnyH P md ops Q S fuel (listed.setIfInBounds i true) a' w' → K' a' w') → Oper.wp P o a w K' Q) : wpAnyH P md ops Q S (fuel + 1) listed a w :=
  wpAnyH_ready hr (by simp) (AllReadyH.cons ho (fun K' hK => by
    rw [if_pos hw]
    exact h K' (fun a' w' hS hW => hK.out a' w' hS (fun _ => hW))) AllReadyH.nil)
end
/-! ### a number below another -/
/-! ### an address cut down to so many bits -/
def maskN (a : Ad) (n : Int) : Int := if bitsOf a.fam < (if n < 0 then 0 else n) then bitsOf a.fam else (if n < 0 then 0 else n)

def cmpP (p q : Pf) : Int := if cmpA p.a q.a ≠ 0 then cmpA p.a q.a else if p.n < q.n then -1 else if q.n < p.n then 1 else 0
/-- Are so many bytes from a place on all 0? -/
def zerB (l : List Int) : Nat → Nat → Bool
  | 0, _ => true
  | d + 1, i => byt l i == 0 && zerB l d (i + 1)
def fromA (f : Int) : Nat := if f = 0 then 0 else if f = 4 then 4 else 16
def famB (f : Int) : Bool := f == 0 || f == 4 || f == 6
def mayA (a : Ad) : Bool := zerB a.bs (16 - fromA a.fam) (fromA a.fam) && famB a.fam
def mayPP (p : Pf) : Prop := mayA p.a = true ∧ p.a.fam ≠ 0 ∧ 0 ≤ p.n ∧ p.n ≤ bitsOf p.a.fam ∧ ∀ j : Nat, p.n ≤ (j : Int) → (j : Int) < bitsOf p.a.fam → bitA p.a j = 0
def mayP (p : Pf) : Bool := mayA p.a && decide (p.a.fam ≠ 0) && decide (0 ≤ p.n) && decide (p.n ≤ bitsOf p.a.fam) && (List.range (bitsOf p.a.fam).toNat).all fun j => decide (p.n ≤ (j : Int) → bitA p.a j = 0)
theorem mayP_iff (p : Pf) : mayP p = true ↔ mayPP p := by
  unfold mayP mayPP
  simp only [Bool.and_eq_true, decide_eq_true_eq, List.all_eq_true, List.mem_range]
  constructor
  · rintro ⟨⟨⟨⟨h1, h2⟩, h3⟩, h4⟩, h5⟩
    exact ⟨h1, h2, h3, h4, fun j a b => h5 j (by omega) a⟩
  · rintro ⟨h1, h2, h3, h4, h5⟩
    exact ⟨⟨⟨⟨h1, h2⟩, h3⟩, h4⟩, fun j a b => h5 j b (by omega)⟩
section
variable {P : Program} {ops : Array Oper} {Q : Exit → Act → World → Prop} {md : Region.Mode} {S : World → Prop}
/-- From a region on: the world behind the draw as a letter ('generalize' of the draw does not end). -/
theorem anyH_world {fuel : Nat} {listed : Array Bool} {a : Act} {w : World} (hs : S w) (h : ∀ w' : World, S w' → wpAnyH P md ops Q S fuel listed a w') : wpAnyH P md ops Q S fuel listed a w := h w hs
end
end Go.Proofs.YtjilnigmbnmlfaaDoor.P
end
