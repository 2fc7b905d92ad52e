/-
  The names that csp.Parse has seen, kept in a map that a closure reads and writes: what the map holds, and the closure's contract.
-/
import Derived.Test.YthjhbhgfckaklaaDoorBase
import Derived.Maps.OwnSet
import Derived.Maps.Views
import Derived.Shelf.Abstract
namespace Go.Proofs.YthjhbhgfckaklaaDoor.P
open Go.RowKit Go.Proofs.YthjhbhgfckaklaaDoorW.PrintWords Go.Proofs.YthjhbhgfckaklaaDoorW.PrintLast Go.Proofs.YthjhbhgfckaklaaDoorW.PrintMore
open Go.Maps Go.WideMaps Go.ChangeMaps
set_option linter.unusedVariables false
set_option linter.unusedSimpArgs false

/-- Does a name stand among names? -/
def memB (s : ByteArray) (names : List ByteArray) : Bool := names.any fun x => x.data.toList == s.data.toList
theorem memB_iff {s : ByteArray} {names : List ByteArray} : memB s names = true ↔ s ∈ names := by
  unfold memB
  rw [List.any_eq_true]
  constructor
  · rintro ⟨x, hx, h⟩
    have : x = s := by
      apply ByteArray.ext
      exact Array.ext' (by simpa using h)
    rw [← this]; exact hx
  · intro h
    exact ⟨s, h, by simp⟩
theorem memB_not {s : ByteArray} {names : List ByteArray} : memB s names = false ↔ ¬ s ∈ names := by
  rw [← memB_iff]; simp
def keyL (s : ByteArray) : Lit := .string s.data.toList
theorem keyL_inj {a b : ByteArray} (h : keyL a = keyL b) : a = b := by
  unfold keyL at h
  injection h with h
  apply ByteArray.ext
  exact Array.ext' h
theorem keyL_is (s : ByteArray) : WideAt.IsKeyLit (keyL s) := trivial
/-- Block M is a map in which just the names stand, each with true; block c is the variable that holds it. -/
structure SeenAt (w : World) (M c : Nat) (names : List ByteArray) : Prop where
  cell : w.heap[c]? = some (.cells #[.map (some M)] 106 (0, 0))
  map : ∃ (D : DataW Unit) (n : Nat), w.ownsMap Tryd.prog 9 (plainElem Tryd.prog 4) M n D ∧ n ≤ names.length ∧ Tidy D ∧
    (∀ s : ByteArray, has D (keyL s) = memB s names) ∧ ∀ (s : ByteArray) (z : DataW Unit), s ∈ names → D.atKey (keyL s) z = .lit (.bool true)
theorem ownsMap_same {w w' : World} {M n : Nat} {D : DataW Unit} (h : w.ownsMap Tryd.prog 9 (plainElem Tryd.prog 4) M n D) (hb : w'.heap[M]? = w.heap[M]?) : w'.ownsMap Tryd.prog 9 (plainElem Tryd.prog 4) M n D := by
  obtain ⟨es, clock, h1, h2⟩ := h
  exact ⟨es, clock, hb.trans h1, h2⟩
theorem SeenAt.same {w w' : World} {M c : Nat} {names : List ByteArray} (h : SeenAt w M c names) (h1 : w'.heap[M]? = w.heap[M]?) (h2 : w'.heap[c]? = w.heap[c]?) : SeenAt w' M c names := by
  obtain ⟨D, n, h3, h4⟩ := h.map
  exact ⟨h2.trans h.cell, D, n, ownsMap_same h3 h1, h4⟩
theorem SeenAt.lt {w : World} {M c : Nat} {names : List ByteArray} (h : SeenAt w M c names) : M < w.heap.size ∧ c < w.heap.size := by
  obtain ⟨D, n, h3, h4⟩ := h.map
  exact ⟨h3.lt, blk_lt h.cell⟩
theorem SeenAt.below {w w' : World} {M c : Nat} {names : List ByteArray} (h : SeenAt w M c names) (hb : Below w.heap.size w w') : SeenAt w' M c names :=
  h.same (hb.block M h.lt.1) (hb.block c h.lt.2)

theorem plain_bool (b : Bool) : plainElem (H := Unit) Tryd.prog 4 (.bool b) = some (.lit (.bool b), []) := plainElem_bool Tryd.underlying4 b
theorem plain_bool_inv {v : Value} {b : Bool} {ps : List MemPlace} (h : plainElem (H := Unit) Tryd.prog 4 v = some (.lit (.bool b), ps)) : v = .bool b := by
  unfold plainElem at h
  have hu := Tryd.underlying4
  cases v <;> simp_all
theorem seen_look {w : World} {M c : Nat} {names : List ByteArray} (h : SeenAt w M c names) (s : ByteArray) (hs : s.size ≤ maxLen) :
    (Instr.lookup 106 (.map (some M)) (.string s) false).run Tryd.prog w = .ok (.bool (memB s names)) w := by
  obtain ⟨D, n, h3, h4, h5, h6, h7⟩ := h.map
  have hz : (zeroValue 4).run Tryd.prog w = .ok (.bool false) w := by kernel_rfl
  obtain ⟨v, ps, hrun, hv⟩ := h3.lookup (string_keyed Tryd.underlying9) Tryd.underlying106 hz (plain_bool false) (keyOf_string_mk Tryd.underlying9 hs)
  have hd : D.atKey (keyL s) (.lit (.bool false)) = .lit (.bool (memB s names)) := by
    by_cases hm : s ∈ names
    · rw [h7 s _ hm, memB_iff.2 hm]
    · rw [memB_not.2 hm]
      exact atKey_of_not_has (by rw [h6 s, memB_not.2 hm]) _
  rw [show D.atKey (.string s.data.toList) (.lit (.bool false)) = _ from hd] at hv
  rw [hrun, plain_bool_inv hv]
def addName (names : List ByteArray) (s : ByteArray) : List ByteArray := if memB s names = true then names else names ++ [s]
theorem seen_put {w : World} {M c : Nat} {names : List ByteArray} (h : SeenAt w M c names) (hMc : c ≠ M) (s : ByteArray) (hs : s.size ≤ maxLen) (hn : names.length < maxLen) :
    ∃ w', (Instr.mapUpdate 106 (.map (some M)) (.string s) (.bool true)).run Tryd.prog w = .ok () w' ∧ SeenAt w' M c (addName names s) ∧ w.grownBy w' (some M) := by
  obtain ⟨D, n, h3, h4, h5, h6, h7⟩ := h.map
  obtain ⟨w', hrun, h8, h9⟩ := h3.update (string_keyed Tryd.underlying9) Tryd.underlying106 (Nat.lt_of_le_of_lt h4 hn) (keyOf_string_mk Tryd.underlying9 hs) (plain_bool true)
  refine ⟨w', hrun, ⟨(h9.block c h.lt.2 (by simpa using hMc)).trans h.cell, ?_⟩, h9⟩
  have hk : WideAt.IsKeyLit (keyL s) := keyL_is s
  have hsz : Maps.size (D.put (keyL s) (.lit (.bool true))) ≤ (addName names s).length := by
    have h10 := h3.size_le
    rw [size_put h5, h6 s]
    unfold addName
    by_cases hm : memB s names = true
    · rw [if_pos hm, if_pos hm]; omega
    · rw [if_neg hm, if_neg hm, List.length_append]; simp; omega
  have hmem : ∀ x : ByteArray, x ∈ addName names s ↔ x = s ∨ x ∈ names := by
    intro x
    unfold addName
    split
    · rename_i hm
      constructor
      · exact fun h => .inr h
      · rintro (rfl | h)
        · exact memB_iff.1 hm
        · exact h
    · simp [or_comm]
  obtain ⟨es, clock, e1, e2, e3, e4⟩ := h8
  refine ⟨D.put (keyL s) (.lit (.bool true)), es.size, ⟨es, clock, e1, e2, Nat.le_refl _, e4⟩, ?_, h5.put hk _, fun x => ?_, fun x z hx => ?_⟩
  · have e5 : Maps.size (D.put (keyL s) (.lit (.bool true))) = es.size := by
      rw [show D.put (keyL s) (.lit (.bool true)) = _ from e4, size_eq]
      exact length_read es
    omega
  · by_cases hx : x = s
    · subst hx
      rw [has_put_same h5.isMap hk, memB_iff.2 ((hmem x).2 (.inl rfl))]
    · rw [has_put_other (fun e => hx (keyL_inj e)), h6 x]
      rw [Bool.eq_iff_iff, memB_iff, memB_iff]
      exact ⟨fun h => (hmem x).2 (.inr h), fun h => ((hmem x).1 h).resolve_left hx⟩
  · by_cases hxs : x = s
    · subst hxs
      exact atKey_put_same h5.isMap hk _ _
    · rw [atKey_put_other (fun e => hxs (keyL_inj e))]
      exact h7 x z (((hmem x).1 hx).resolve_left hxs)

set_option maxRecDepth 100000 in
/-- The closure: was the name seen?; it is seen now. -/
theorem csp_twice {M c : Nat} {names : List ByteArray} (s : ByteArray) (w : World) (h : SeenAt w M c names) (hMc : c ≠ M) (hs : s.size ≤ maxLen) (hn : names.length < maxLen) :
    Calls Tryd.prog 70 #[.string s, .pointer (some ⟨c, 0, none⟩)] w fun e w' => e = .returned (.bool (memB s names)) ∧ SeenAt w' M c (addName names s) ∧ w.grownBy w' (some M) := by
  have hc : w.cell? ⟨c, 0, none⟩ = some (.map (some M)) := by
    unfold World.cell?
    simp [h.cell]
  have hl := seen_look h s hs
  obtain ⟨w1, hrun, hs1, hg⟩ := seen_put h hMc s hs hn
  have HS := Aside0.mk hs1
  have HG := Aside0.mk hg
  clear hs1 hg h hn hMc hs
  go_enter Tryd.func70, Tryd.ntmps70
  go_wp2
  go_ret
  exact ⟨rfl, HS.out, HG.out⟩

/-! ### the state that lies below all that the call makes -/
structure SeenSt (wO w : World) (names : List ByteArray) : Prop where
  size : w.heap.size = wO.heap.size + 2
  below : Below wO.heap.size wO w
  seen : SeenAt w wO.heap.size (wO.heap.size + 1) names
theorem SeenSt.at {wO w W : World} {names : List ByteArray} (h : SeenSt wO w names) (hb : Below w.heap.size w W) : SeenAt W wO.heap.size (wO.heap.size + 1) names := h.seen.below hb
theorem seen_turn {wO w W w1 : World} {names names' : List ByteArray} (h : SeenSt wO w names) (hb : Below w.heap.size w W) (hg : W.grownBy w1 (some wO.heap.size)) (hs : SeenAt w1 wO.heap.size (wO.heap.size + 1) names') :
    ∃ w', w'.heap.size = w.heap.size ∧ SeenSt wO w' names' ∧ Below w'.heap.size w' w1 := by
  obtain ⟨o, ho⟩ : ∃ o, w1.heap[wO.heap.size]? = some o := by
    have := hs.lt.1
    exact ⟨w1.heap[wO.heap.size], Array.getElem?_eq_getElem this⟩
  have hsz := h.size
  refine ⟨{ w with heap := w.heap.set! wO.heap.size o }, by simp, ?_, ?_⟩
  · have key : ∀ k, ({ w with heap := w.heap.set! wO.heap.size o } : World).heap[k]? = if k = wO.heap.size then some o else w.heap[k]? := by
      intro k
      show (w.heap.set! wO.heap.size o)[k]? = _
      rw [Array.set!_eq_setIfInBounds, Array.getElem?_setIfInBounds]
      by_cases hk : k = wO.heap.size
      · subst hk
        rw [if_pos rfl, if_pos (by omega), if_pos rfl]
      · rw [if_neg (fun e => hk e.symm), if_neg hk]
    refine ⟨by simp [hsz], ⟨h.below.os, h.below.tape, h.below.output, by simp; omega, fun k hk => ?_⟩, ?_⟩
    · rw [key, if_neg (by omega)]
      exact h.below.block k hk
    · refine hs.same ?_ ?_
      · rw [key, if_pos rfl, ho]
      · rw [key, if_neg (by omega), hg.block _ (by have := hb.size; omega) (by simp), hb.block _ (by omega)]
  · have key : ∀ k, ({ w with heap := w.heap.set! wO.heap.size o } : World).heap[k]? = if k = wO.heap.size then some o else w.heap[k]? := by
      intro k
      show (w.heap.set! wO.heap.size o)[k]? = _
      rw [Array.set!_eq_setIfInBounds, Array.getElem?_setIfInBounds]
      by_cases hk : k = wO.heap.size
      · subst hk
        rw [if_pos rfl, if_pos (by omega), if_pos rfl]
      · rw [if_neg (fun e => hk e.symm), if_neg hk]
    refine ⟨hg.os.trans hb.os, hg.tape.trans hb.tape, hg.output.trans hb.output, ?_, fun k hk => ?_⟩
    · have h1 := hb.size
      have h2 := hg.size
      simp
      omega
    · rw [key]
      have hk2 : k < w.heap.size := by simpa using hk
      by_cases hkm : k = wO.heap.size
      · subst hkm
        rw [if_pos rfl, ho]
      · rw [if_neg hkm, hg.block k (by have := hb.size; omega) (by simpa using hkm), hb.block k hk2]
theorem seen_start (wO : World) : ∃ w, w = (wO.alloc (.map #[] 0)).alloc (.cells #[.map (some wO.heap.size)] 106) ∧ SeenSt wO w [] := by
  refine ⟨_, rfl, ?_, ?_, ?_⟩
  · simp
  · exact ((Below.refl _ wO).alloc (Nat.le_refl _) _).alloc (by simp) _
  · have hm := World.ownsMap_made (H := Unit) wO Tryd.prog 9 (plainElem Tryd.prog 4)
    have e1 : (wO.alloc (.map #[] 0)).heap.size = wO.heap.size + 1 := by simp
    constructor
    · show (((wO.alloc (.map #[] 0)).heap).push _)[wO.heap.size + 1]? = _
      rw [Array.getElem?_push, if_pos (by rw [e1])]
    · refine ⟨.map [], 0, ?_, Nat.zero_le _, tidy_empty, fun s => rfl, fun s z h => by cases h⟩
      refine ownsMap_same hm ?_
      rw [Below.heap_alloc _ _ _ (by omega)]
theorem run_makeSeen (w : World) : (Instr.makeMap 106 none).run Tryd.prog w = .ok (.map (some w.heap.size)) (w.alloc (.map #[] 0)) := rfl
theorem twice_N {α : Type} {d : Kd α} {e b : Nat} {ok : Nat → Prop} {v : Value} {xs : List α} {wO w W w1 : World} {names : List ByteArray} (hZ : SeenSt wO w names) (h : Kd.N d e W b ok v xs) (hok : ∀ k, ok k → w.heap.size ≤ k) (hg : W.grownBy w1 (some wO.heap.size)) : Kd.N d e w1 b ok v xs :=
  Kd.N_step h (fun k ho hlt => hg.block k hlt (by have h1 := hok k ho; have h2 := hZ.size; intro e; injection e with e; omega))
theorem twice_R {α : Type} {d : Kd α} {e b : Nat} {ok : Nat → Prop} {v : Value} {xs : List α} {wO w W w1 : World} {names : List ByteArray} (hZ : SeenSt wO w names) (h : Kd.R d e W b ok v xs) (hok : ∀ k, ok k → w.heap.size ≤ k) (hg : W.grownBy w1 (some wO.heap.size)) : Kd.R d e w1 b ok v xs :=
  Kd.R_step h (fun k ho hlt => hg.block k hlt (by have h1 := hok k ho; have h2 := hZ.size; intro e; injection e with e; omega))
-- EXT abatis/csp.Parse$1 {"rounds": 0, "making": 1}
def csp_Parse_1.f (l : List S79) (s : ByteArray) : Option Bool := if s.size ≤ 1000000 ∧ l.length ≤ 1000000 then some (memB s (l.map S79.f0)) else none
theorem csp_Parse_1.inv {l : List S79} {s : ByteArray} {b : Bool} (h : csp_Parse_1.f l s = some b) : s.size ≤ maxLen ∧ (l.map S79.f0).length < maxLen ∧ memB s (l.map S79.f0) = b := by
  unfold csp_Parse_1.f at h
  split at h
  case isFalse => exact absurd h (by simp)
  rename_i hh
  refine ⟨?_, ?_, Option.some.inj h⟩
  · unfold maxLen; omega
  · rw [List.length_map]; unfold maxLen; omega
end Go.Proofs.YthjhbhgfckaklaaDoor.P
