/-
  preflight.names: names with small letters, each once (a closure over a map).
-/
import Derived.Test.YthjhbhgfckaklaaDoorM4
import Derived.Maps.OwnSet
import Derived.Maps.Views
import Derived.Shelf.Abstract
import Derived.OwnWalk
import Derived.RangeFuncRecord
import Derived.Laws.OwnMore
namespace Go.Proofs.YthjhbhgfckaklaaDoor.P
open Go.RowKit Go.Proofs.YthjhbhgfckaklaaDoorW.PrintWords Go.Proofs.YthjhbhgfckaklaaDoorW.PrintLast Go.Proofs.YthjhbhgfckaklaaDoorW.PrintMore
open Go.Maps Go.WideMaps Go.ChangeMaps
set_option linter.unusedVariables false
set_option linter.unusedSimpArgs false
def memB (s : ByteArray) (names : List ByteArray) : Bool := names.any fun x => x.data.toList == s.data.toList
theorem memB_iff {s : ByteArray} {names : List ByteArray} : memB s names = true ↔ s ∈ names := by
 unfold memB
 rw [List.any_eq_true]
 constructor
 ·rintro ⟨x, hx, h⟩
  have : x = s := by
   apply ByteArray.ext
   exact Array.ext' (by simpa using h)
  rw [← this]; exact hx
 ·intro h
  exact ⟨s, h, by simp⟩
theorem memB_not {s : ByteArray} {names : List ByteArray} : memB s names = false ↔ ¬ s ∈ names := by
 rw [← memB_iff]; simp
def keyL (s : ByteArray) : Lit := .string s.data.toList
theorem keyL_inj {a b : ByteArray} (h : keyL a = keyL b) : a = b := by
 unfold keyL at h
 injection h with h
 apply ByteArray.ext
 exact Array.ext' h
theorem keyL_is (s : ByteArray) : WideAt.IsKeyLit (keyL s) := trivial
structure SeenAt (w : World) (M c : Nat) (names : List ByteArray) : Prop where
 cell : w.heap[c]? = some (.cells #[.map (some M)] 106 (0, 0))
 map : ∃ (D : DataW Unit) (n : Nat), w.ownsMap Tryd.prog 9 (plainElem Tryd.prog 4) M n D ∧ n ≤ names.length ∧ Tidy D ∧
  (∀ s : ByteArray, has D (keyL s) = memB s names) ∧ ∀ (s : ByteArray) (z : DataW Unit), s ∈ names → D.atKey (keyL s) z = .lit (.bool true)
theorem ownsMap_same {w w' : World} {M n : Nat} {D : DataW Unit} (h : w.ownsMap Tryd.prog 9 (plainElem Tryd.prog 4) M n D) (hb : w'.heap[M]? = w.heap[M]?) : w'.ownsMap Tryd.prog 9 (plainElem Tryd.prog 4) M n D := by
 obtain ⟨es, clock, h1, h2⟩ := h
 exact ⟨es, clock, hb.trans h1, h2⟩
theorem SeenAt.same {w w' : World} {M c : Nat} {names : List ByteArray} (h : SeenAt w M c names) (h1 : w'.heap[M]? = w.heap[M]?) (h2 : w'.heap[c]? = w.heap[c]?) : SeenAt w' M c names := by
 obtain ⟨D, n, h3, h4⟩ := h.map
 exact ⟨h2.trans h.cell, D, n, ownsMap_same h3 h1, h4⟩
theorem SeenAt.lt {w : World} {M c : Nat} {names : List ByteArray} (h : SeenAt w M c names) : M < w.heap.size ∧ c < w.heap.size := by
 obtain ⟨D, n, h3, h4⟩ := h.map
 exact ⟨h3.lt, blk_lt h.cell⟩
theorem SeenAt.below {w w' : World} {M c : Nat} {names : List ByteArray} (h : SeenAt w M c names) (hb : Below w.heap.size w w') : SeenAt w' M c names :=
 h.same (hb.block M h.lt.1) (hb.block c h.lt.2)
theorem plain_bool (b : Bool) : plainElem (H := Unit) Tryd.prog 4 (.bool b) = some (.lit (.bool b), []) := plainElem_bool Tryd.underlying4 b
theorem plain_bool_inv {v : Value} {b : Bool} {ps : List MemPlace} (h : plainElem (H := Unit) Tryd.prog 4 v = some (.lit (.bool b), ps)) : v = .bool b := by
 unfold plainElem at h
 have hu := Tryd.underlying4
 cases v <;> simp_all
theorem seen_look {w : World} {M c : Nat} {names : List ByteArray} (h : SeenAt w M c names) (s : ByteArray) (hs : s.size ≤ maxLen) :
  (Instr.lookup 106 (.map (some M)) (.string s) false).run Tryd.prog w = .ok (.bool (memB s names)) w := by
 obtain ⟨D, n, h3, h4, h5, h6, h7⟩ := h.map
 have hz : (zeroValue 4).run Tryd.prog w = .ok (.bool false) w := by kernel_rfl
 obtain ⟨v, ps, hrun, hv⟩ := h3.lookup (string_keyed Tryd.underlying9) Tryd.underlying106 hz (plain_bool false) (keyOf_string_mk Tryd.underlying9 hs)
 have hd : D.atKey (keyL s) (.lit (.bool false)) = .lit (.bool (memB s names)) := by
  by_cases hm : s ∈ names
  ·rw [h7 s _ hm, memB_iff.2 hm]
  ·rw [memB_not.2 hm]
   exact atKey_of_not_has (by rw [h6 s, memB_not.2 hm]) _
 rw [show D.atKey (.string s.data.toList) (.lit (.bool false)) = _ from hd] at hv
 rw [hrun, plain_bool_inv hv]
def addName (names : List ByteArray) (s : ByteArray) : List ByteArray := if memB s names = true then names else names ++ [s]
theorem seen_put {w : World} {M c : Nat} {names : List ByteArray} (h : SeenAt w M c names) (hMc : c ≠ M) (s : ByteArray) (hs : s.size ≤ maxLen) (hn : names.length < maxLen) :
  ∃ w', (Instr.mapUpdate 106 (.map (some M)) (.string s) (.bool true)).run Tryd.prog w = .ok () w' ∧ SeenAt w' M c (addName names s) ∧ w.grownBy w' (some M) := by
 obtain ⟨D, n, h3, h4, h5, h6, h7⟩ := h.map
 obtain ⟨w', hrun, h8, h9⟩ := h3.update (string_keyed Tryd.underlying9) Tryd.underlying106 (Nat.lt_of_le_of_lt h4 hn) (keyOf_string_mk Tryd.underlying9 hs) (plain_bool true)
 refine ⟨w', hrun, ⟨(h9.block c h.lt.2 (by simpa using hMc)).trans h.cell, ?_⟩, h9⟩
 have hk : WideAt.IsKeyLit (keyL s) := keyL_is s
 have hsz : Maps.size (D.put (keyL s) (.lit (.bool true))) ≤ (addName names s).length := by
  have h10 := h3.size_le
  rw [size_put h5, h6 s]
  unfold addName
  by_cases hm : memB s names = true
  ·rw [if_pos hm, if_pos hm]; omega
  ·rw [if_neg hm, if_neg hm, List.length_append]; simp; omega
 have hmem : ∀ x : ByteArray, x ∈ addName names s ↔ x = s ∨ x ∈ names := by
  intro x
  unfold addName
  split
  ·rename_i hm
   constructor
   ·exact fun h => .inr h
   ·rintro (rfl | h)
    ·exact memB_iff.1 hm
    ·exact h
  ·simp [or_comm]
 obtain ⟨es, clock, e1, e2, e3, e4⟩ := h8
 refine ⟨D.put (keyL s) (.lit (.bool true)), es.size, ⟨es, clock, e1, e2, Nat.le_refl _, e4⟩, ?_, h5.put hk _, fun x => ?_, fun x z hx => ?_⟩
 ·have e5 : Maps.size (D.put (keyL s) (.lit (.bool true))) = es.size := by
   rw [show D.put (keyL s) (.lit (.bool true)) = _ from e4, size_eq]
   exact length_read es
  omega
 ·by_cases hx : x = s
  ·subst hx
   rw [has_put_same h5.isMap hk, memB_iff.2 ((hmem x).2 (.inl rfl))]
  ·rw [has_put_other (fun e => hx (keyL_inj e)), h6 x]
   rw [Bool.eq_iff_iff, memB_iff, memB_iff]
   exact ⟨fun h => (hmem x).2 (.inr h), fun h => ((hmem x).1 h).resolve_left hx⟩
 ·by_cases hxs : x = s
  ·subst hxs
   exact atKey_put_same h5.isMap hk _ _
  ·rw [atKey_put_other (fun e => hxs (keyL_inj e))]
   exact h7 x z (((hmem x).1 hx).resolve_left hxs)
set_option maxRecDepth 100000 in
theorem names_again {M c : Nat} {names : List ByteArray} (s : ByteArray) (w : World) (h : SeenAt w M c names) (hMc : c ≠ M) (hs : s.size ≤ maxLen) (hn : names.length < maxLen) :
  Calls Tryd.prog 88 #[.string s, .pointer (some ⟨c, 0, none⟩)] w fun e w' => e = .returned (.bool (memB s names)) ∧ SeenAt w' M c (addName names s) ∧ w.grownBy w' (some M) := by
 have hc : w.cell? ⟨c, 0, none⟩ = some (.map (some M)) := by
  unfold World.cell?
  simp [h.cell]
 have hl := seen_look h s hs
 obtain ⟨w1, hrun, hs1, hg⟩ := seen_put h hMc s hs hn
 have HS := Aside0.mk hs1
 have HG := Aside0.mk hg
 clear hs1 hg h hn hMc hs
 go_enter Tryd.func88, Tryd.ntmps88
 go_wp2
 go_ret
 exact ⟨rfl, HS.out, HG.out⟩
theorem seen_new (wO : World) : SeenAt ((wO.alloc (.map #[] 0)).alloc (.cells #[.map (some wO.heap.size)] 106)) wO.heap.size (wO.heap.size + 1) [] := by
 have hm := World.ownsMap_made (H := Unit) wO Tryd.prog 9 (plainElem Tryd.prog 4)
 have e1 : (wO.alloc (.map #[] 0)).heap.size = wO.heap.size + 1 := by simp
 constructor
 ·show (((wO.alloc (.map #[] 0)).heap).push _)[wO.heap.size + 1]? = _
  rw [Array.getElem?_push, if_pos (by rw [e1])]
 ·refine ⟨.map [], 0, ?_, Nat.zero_le _, tidy_empty, fun s => rfl, fun s z h => by cases h⟩
  refine ownsMap_same hm ?_
  rw [Below.heap_alloc _ _ _ (by omega)]
theorem run_makeSeen (w : World) : (Instr.makeMap 106 none).run Tryd.prog w = .ok (.map (some w.heap.size)) (w.alloc (.map #[] 0)) := rfl
def lowN (s : ByteArray) : ByteArray := strOfNums ((bytesOf s).map lowB)
def onceB : List ByteArray → List ByteArray → List ByteArray
 | [], out => out
 | s :: l, out => onceB l (addName out (lowN s))
theorem onceB_snoc : ∀ (l out : List ByteArray) (s : ByteArray), onceB (l ++ [s]) out = addName (onceB l out) (lowN s)
 | [], out, s => rfl
 | x :: l, out, s => onceB_snoc l _ s
theorem addName_length (out : List ByteArray) (s : ByteArray) : (addName out s).length ≤ out.length + 1 := by
 unfold addName
 split
 ·omega
 ·rw [List.length_append]; simp
theorem onceB_length : ∀ (l out : List ByteArray), (onceB l out).length ≤ out.length + l.length
 | [], out => by show out.length ≤ _; simp
 | x :: l, out => by
  have h1 := onceB_length l (addName out (lowN x))
  have h2 := addName_length out (lowN x)
  show (onceB l (addName out (lowN x))).length ≤ _
  rw [List.length_cons]
  omega
def smallN (s : ByteArray) : Bool := decide (s.size ≤ 1000000)
theorem infoS : (Tryd.prog.info? 9).map (fun i => (i.zero, i.size, i.bytes)) = some (some (.string ⟨#[]⟩), 1, 16) := by kernel_rfl
theorem wrap_nextN (i : Nat) (h : i ≤ 1000000) : wrap64 ((i : Int) + 1) = ((i + 1 : Nat) : Int) := by unfold wrap64; omega
theorem measure_nextN (L i : Nat) (z : Int) (h : z = ((i + 1 : Nat) : Int)) (hlt : i < L) : L - (intOf (.int .i64 z)).toNat < L - (intOf (.int .i64 (i : Int))).toNat := by
 subst h
 show L - (((i + 1 : Nat) : Int)).toNat < L - ((i : Nat) : Int).toNat
 rw [Int.toNat_natCast, Int.toNat_natCast]
 omega
theorem cell_one (W : World) (v : Value) (t : TypeId) : ∀ j u, ([v] : List Value)[j]? = some u → (W.alloc (.cells #[v] t)).cell? ((⟨W.heap.size, 0, none⟩ : Addr).add j) = some u := fun j u hj => by
 rw [add_plain]
 match j, hj with
 | 0, hj => cases hj; unfold World.cell?; rw [World.alloc_heap_new]; rfl
def preflight_names.f (l0 : List ByteArray) : Option (List ByteArray) := if l0.length ≤ 100000 ∧ l0.all smallN = true then some (onceB l0 []) else none
set_option maxRecDepth 100000 in
set_option maxHeartbeats 4000000 in
theorem preflight_names.calls (A0 : Option Addr) (c0 : Nat) (l0 : List ByteArray) (r : List ByteArray) (w : World) (hr0 : Kd.C Kd.string w A0 l0.length l0) (hc0 : l0.length ≤ c0) (h : preflight_names.f l0 = some r) :
  Calls Tryd.prog 47 #[.slice A0 l0.length c0] w fun e w' => ∃ v0_ : Value, e = .returned v0_ ∧ Kd.R Kd.string 9 w' w.heap.size (fun _ => True) v0_ r ∧ Below w.heap.size w w' := by
 unfold preflight_names.f at h
 split at h
 case isFalse => exact absurd h (by simp)
 rename_i hs
 have HRES := Aside0.mk (Option.some.inj h)
 have HR0 := Aside0.mk hr0
 have HS := Aside0.mk hs.2
 have HS1 := Aside0.mk hs.1
 obtain ⟨i0, hi, hz0, hz1, hz2⟩ := info_parts infoS
 have hN := Aside0.mk (seen_new w)
 have hB0 := Aside0.mk (((Below.refl w.heap.size w).alloc (Nat.le_refl _) (.map #[] 0)).alloc (by simp) (.cells #[.map (some w.heap.size)] 106))
 have hsz0 : ((w.alloc (.map #[] 0)).alloc (.cells #[.map (some w.heap.size)] 106)).heap.size = w.heap.size + 2 := by simp
 have HSZ0 := Aside0.mk hsz0
 clear h hs hr0 hc0 hsz0
 have eg : ∀ args w, (callFunc 88 args).run Tryd.prog w = .ok (.enter 88 args) w := enters_of Tryd.func88 (by kernel_rfl) rfl
 have hmk := fun w => run_makeSeen w
 go_enter Tryd.func47, Tryd.ntmps47
 go_wp2
 go_loopw [5, 7, 12] (fun v5 v7 v12 wr => ∃ i : Nat, v12 = .int .i64 (i : Int) ∧ Aside0 (i ≤ l0.length) ∧ Aside0 (wr.ownsRow (w.heap.size + 2) 9 1 v5 (onceB (l0.take i) []).length ((onceB (l0.take i) []).map Value.string)) ∧ Aside0 (SeenAt wr w.heap.size (w.heap.size + 1) (onceB (l0.take i) [])) ∧ Aside0 (Below w.heap.size w wr) ∧ Aside0 (w.heap.size + 2 ≤ wr.heap.size)) (fun _ _ v12 _ => l0.length - (intOf v12).toNat)
 case atStart => exact ⟨0, rfl, ⟨Nat.zero_le _⟩, ⟨own_nil _ _ _ _⟩, hN, hB0, ⟨by rw [HSZ0.out]; exact Nat.le_refl _⟩⟩
 case round =>
  clear hN hB0 HSZ0
  obtain ⟨i, rfl, HI, HO, HSN, HB, HSZ⟩ := hrel
  by_cases hlt : i < l0.length
  ·have c3b0 : decide ((i : Int) < (l0.length : Int)) = true := decide_eq_true (by omega)
   have c3b1 : decide (i < l0.length) = true := decide_eq_true hlt
   have c3b2 : (0 : Int) ≤ (i : Int) := Int.natCast_nonneg i
   obtain ⟨ad, e133, hx⟩ := Kd.at_string HR0.out (i : Int) c3b2 (by omega)
   cases e133
   have hrd : rdOf ByteArray.empty l0 (i : Int) = l0[i] := by
    unfold rdOf
    rw [Int.toNat_natCast, List.getD_eq_getElem?_getD, List.getElem?_eq_getElem hlt]
    rfl
   rw [hrd, Int.toNat_natCast] at hx
   have hss : l0[i].size ≤ 1000000 := of_decide_eq_true (List.all_eq_true.1 HS.out _ (List.getElem_mem hlt))
   have hnext : onceB (l0.take (i + 1)) [] = addName (onceB (l0.take i) []) (lowN l0[i]) := by
    rw [List.take_add_one, List.getElem?_eq_getElem hlt]
    exact onceB_snoc _ _ _
   have hol := onceB_length (l0.take i) []
   rw [List.length_take, List.length_nil] at hol
   obtain ⟨s, hs⟩ : ∃ s, l0[i] = s := ⟨_, rfl⟩
   rw [hs] at hx hss hnext
   replace hx := (HB.out.cell (World.block_lt_of_cell? w _ hx)).trans hx
   have hlow : text_Lower.f s = some (lowN s) := by unfold text_Lower.f; rw [if_pos (Nat.le_trans hss (by decide))]; rfl
   have hlz : (lowN s).size ≤ maxLen := by unfold lowN; rw [size_strOf, List.length_map, bytesOf_length]; exact Nat.le_trans hss (by decide)
   have hon : (onceB (l0.take i) []).length ≤ 100000 := by have := HS1.out; omega
   have HLOW := Aside0.mk hlow
   have HLZ := Aside0.mk hlz
   have HNEXT := Aside0.mk hnext
   have HON := Aside0.mk hon
   have e1 := wrap_nextN i (by have := HS1.out; omega)
   have hmx : (onceB (l0.take i) []).length < maxLen := Nat.lt_of_le_of_lt hon (by decide)
   have HMX := Aside0.mk hmx
   clear hrd hss hnext hol hs hlow hlz hon hmx
   replace c3b2 := eq_true c3b2
   generalize hout : onceB (l0.take i) [] = out at HO HSN HNEXT HON HMX
   clear hout
   cases hm : memB (lowN s) out with
   | true =>
    have HN2 : Aside0 (onceB (l0.take (i + 1)) [] = out) := ⟨by rw [HNEXT.out]; unfold addName; rw [if_pos hm]⟩
    have HAD : Aside0 (addName out (lowN s) = out) := ⟨by unfold addName; rw [if_pos hm]⟩
    go_wp2_with (first
     | (go_at_call 72; refine (text_Lower.calls s (lowN s) _ HLOW.out).mono ?_; rintro e w2 ⟨rfl, hB2⟩; have HB2 := Aside0.mk (HB.out.trans (hB2.mono HB.out.size)); have HSN2 := Aside0.mk (HSN.out.below hB2); have HO2 := Aside0.mk (pw_own_below HO.out hB2); have HZ2 := Aside0.mk (Nat.le_trans HSZ.out hB2.size); clear hB2)
     | (go_at_call 88; refine (names_again (lowN s) _ HSN2.out (by omega) HLZ.out HMX.out).mono ?_; rintro e w3 ⟨rfl, hs3, hg3⟩; rw [hm]; rw [HAD.out] at hs3))
    go_roundw
    case rel => exact ⟨i + 1, (by first | exact congrArg (Value.int .i64) e1 | rfl), ⟨hlt⟩, ⟨by rw [HN2.out]; exact own_other HO2.out hg3 (.inr (fun e => by have := own_base HO2.out _ e; omega))⟩, ⟨by rw [HN2.out]; exact hs3⟩, ⟨HB2.out.grown hg3 HB2.out.size (fun k e => by cases e; exact Nat.le_refl _)⟩, ⟨Nat.le_trans HZ2.out hg3.size⟩⟩
    case measure => exact measure_nextN l0.length i _ (by first | exact e1 | rfl) hlt
   | false =>
    have HAD : Aside0 (addName out (lowN s) = out ++ [lowN s]) := ⟨by unfold addName; rw [if_neg (by rw [hm]; decide)]⟩
    have HN2 : Aside0 (onceB (l0.take (i + 1)) [] = out ++ [lowN s]) := ⟨by rw [HNEXT.out, HAD.out]⟩
    go_wp2_with (first
     | (go_at_call 72; refine (text_Lower.calls s (lowN s) _ HLOW.out).mono ?_; rintro e w2 ⟨rfl, hB2⟩; have HB2 := Aside0.mk (HB.out.trans (hB2.mono HB.out.size)); have HSN2 := Aside0.mk (HSN.out.below hB2); have HO2 := Aside0.mk (pw_own_below HO.out hB2); have HZ2 := Aside0.mk (Nat.le_trans HSZ.out hB2.size); clear hB2)
     | (go_at_call 88; refine (names_again (lowN s) _ HSN2.out (by omega) HLZ.out HMX.out).mono ?_; rintro e w3 ⟨rfl, hs3, hg3⟩; rw [hm]; rw [HAD.out] at hs3; have HS3 := Aside0.mk hs3; have HO3 := Aside0.mk (own_other HO2.out hg3 (.inr (fun e => by have := own_base HO2.out _ e; omega))); have HB3 := Aside0.mk (HB2.out.grown hg3 HB2.out.size (fun k e => by cases e; exact Nat.le_refl _)); have HZ3 := Aside0.mk (Nat.le_trans HZ2.out hg3.size); clear hs3 hg3)
     | (at_builtin; refine wpList_append_own _ rfl _ _ 37 rfl (w.heap.size + 2) 9 i0 (.string ⟨#[]⟩) 1 16 Tryd.underlying37 hi hz0 hz1 hz2 rfl (by decide) _ _ _ rfl (HO3.out.alloc _) ⟨w3.heap.size, 0, none⟩ 1 1 [.string (lowN s)] rfl rfl (cell_one _ _ _) (by simp [Value.oneCell']) (by have := HON.out; simp only [maxLen]; omega) (by have := HON.out; omega) (by rw [World.size_alloc]; have := HZ3.out; omega) ?_; intro v' w5 hown5 hg5 _))
    go_roundw
    case rel => exact ⟨i + 1, (by first | exact congrArg (Value.int .i64) e1 | rfl), ⟨hlt⟩, ⟨by rw [HN2.out, List.length_append, List.map_append]; exact hown5⟩, ⟨by rw [HN2.out]; exact ((HS3.out.below ((Below.refl _ _).alloc (Nat.le_refl _) _)).same (hg5.block _ (by rw [World.size_alloc]; have := HZ3.out; omega) (fun e => by have := own_base HO3.out _ e.symm; omega)) (hg5.block _ (by rw [World.size_alloc]; have := HZ3.out; omega) (fun e => by have := own_base HO3.out _ e.symm; omega)))⟩, ⟨(HB3.out.alloc HB3.out.size _).grown hg5 (by rw [World.size_alloc]; have := HB3.out.size; omega) (fun k e => by have := own_base HO3.out k e; omega)⟩, ⟨Nat.le_trans HZ3.out (Nat.le_trans (by rw [World.size_alloc]; omega) hg5.size)⟩⟩
    case measure => exact measure_nextN l0.length i _ (by first | exact e1 | rfl) hlt
  ·have c3b0 : decide ((i : Int) < (l0.length : Int)) = false := decide_eq_false (by omega)
   have c3b1 : decide (i < l0.length) = false := decide_eq_false hlt
   have ho := HO.out
   rw [List.take_of_length_le (by omega), HRES.out] at ho
   have HO2 := Aside0.mk ho
   obtain ⟨A2, c2, rfl⟩ := own_slice ho
   clear ho HO
   go_wp2
   go_ret
   exact ⟨_, rfl, Kd.R_of_own (own_weaken HO2.out (by omega)) (fun _ _ => trivial), HB.out⟩
end Go.Proofs.YthjhbhgfckaklaaDoor.P
