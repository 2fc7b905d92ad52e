/-
  A table behind deeds.
-/
import Derived.Test.YthjhbhgfckaklaaTabM
namespace Go.Proofs.Ythjhbhgfckaklaa.P
open Go.RowKit Go.Proofs.YthjhbhgfckaklaaW.PrintWords Go.Proofs.YthjhbhgfckaklaaW.PrintLast Go.Proofs.YthjhbhgfckaklaaW.PrintMore
set_option linter.unusedVariables false
set_option linter.unusedSimpArgs false
/-- A slice that reads as these deeds. -/
structure RdD (w : World) (A : Option Addr) (n cap : Nat) (L : List De) : Prop where
  len : L.length = n
  at_ : ∀ (i : Nat) (d : De), L[i]? = some d → ∃ G o, (∀ w : World, (Instr.indexAt 49 (.slice A n cap) (.int .i64 (i : Int))).run Try.prog w = .ok (.pointer (some ⟨G, o, none⟩)) w) ∧ w.rangeAt G o (lD d) ∧ d.p.a.ok
def playE (L : List De) : List En := L.foldl doE []
theorem playE_snoc (L : List De) (d : De) : playE (L ++ [d]) = doE (playE L) d := by unfold playE; rw [List.foldl_append]; rfl
theorem ok_dropE' {l : List En} (hl : okE l) (p : Pf) : okE (dropE l p) := fun e he => hl e ((List.mem_filter.1 he).1)
theorem dropE_len (l : List En) (p : Pf) : (dropE l p).length ≤ l.length := List.length_filter_le _ _
theorem may_setE {l : List En} (hm : ∀ e ∈ l, mayP e.p = true) {p : Pf} (hp : mayP p = true) (v : Int) : ∀ e ∈ setE l p v, mayP e.p = true := fun e he => by
  unfold setE at he
  rcases List.mem_append.1 he with he | he
  · exact hm e ((List.mem_filter.1 he).1)
  · rcases List.mem_cons.1 he with rfl | he
    · exact hp
    · exact hm e ((List.mem_filter.1 he).1)
/-- What a list of entries always is. -/
structure Fine (l : List En) (n : Nat) : Prop where
  ok : okE l
  sorted : Sorted l
  may : ∀ e ∈ l, mayP e.p = true
  len : l.length ≤ n
theorem fine_nil : Fine [] 0 := ⟨fun e he => (by cases he), List.Pairwise.nil, fun e he => (by cases he), Nat.le_refl _⟩
theorem fine_set {l : List En} {n : Nat} (h : Fine l n) {p : Pf} (hp : p.a.ok) (v : Int) : Fine (if mayQ p = true then setE l p v else l) (n + 1) := by
  split
  · rename_i hm
    rw [may_same hp] at hm
    exact ⟨ok_setE h.ok hp v, sorted_setE h.ok h.sorted hp v, may_setE h.may hm v, Nat.le_trans (setE_length l p v) (Nat.succ_le_succ h.len)⟩
  · exact ⟨h.ok, h.sorted, h.may, Nat.le_succ_of_le h.len⟩
theorem fine_do {l : List En} {n : Nat} (h : Fine l n) {d : De} (hd : d.p.a.ok) : Fine (doE l d) (n + 1) := by
  unfold doE
  split
  · exact fine_set h (ok_pfD hd) d.v
  · split
    · exact ⟨ok_dropE' h.ok _, List.Pairwise.filter _ h.sorted, fun e he => h.may e ((List.mem_filter.1 he).1), Nat.le_succ_of_le (Nat.le_trans (dropE_len _ _) h.len)⟩
    · exact ⟨h.ok, h.sorted, h.may, Nat.le_succ_of_le h.len⟩
theorem fine_play : ∀ (L : List De), (∀ d ∈ L, d.p.a.ok) → Fine (playE L) L.length := by
  have h : ∀ (L : List De) (l : List En) (n : Nat), (∀ d ∈ L, d.p.a.ok) → Fine l n → Fine (L.foldl doE l) (n + L.length) := by
    intro L
    induction L with
    | nil => exact fun l n _ h => h
    | cons d L ih =>
      intro l n hL h
      have := ih (doE l d) (n + 1) (fun x hx => hL x (List.mem_cons_of_mem _ hx)) (fine_do h (hL d (List.mem_cons_self ..)))
      rw [List.length_cons]
      rw [show n + (L.length + 1) = n + 1 + L.length by omega]
      exact this
  intro L hL
  have := h L [] 0 hL fine_nil
  rw [Nat.zero_add] at this
  exact this
theorem chg_base {T base : Nat} {w w' : World} (h : Chg T base w w') (hT : base ≤ T) (hb : base ≤ w.heap.size) : Below base w w' := chg_below' h hT hb
theorem lD_info {d : De} (h : d.p.a.ok) : (Try.prog.info? 53).map (·.size) = some (lD d).length := by rw [lD_len h]; kernel_rfl
theorem wrap_up6 (k : Nat) (h : k ≤ 1000000) : wrap64 ((k : Int) + 1) = ((k + 1 : Nat) : Int) := by unfold wrap64; omega
theorem measure_up (L i : Nat) (z : Int) (h : z = ((i + 1 : Nat) : Int)) (hlt : i < L) : L - (intOf (.int .i64 z)).toNat < L - (intOf (.int .i64 (i : Int))).toNat := by
  subst h
  show L - (((i + 1 : Nat) : Int)).toNat < L - ((i : Nat) : Int).toNat
  rw [Int.toNat_natCast, Int.toNat_natCast]
  omega
end Go.Proofs.Ythjhbhgfckaklaa.P
