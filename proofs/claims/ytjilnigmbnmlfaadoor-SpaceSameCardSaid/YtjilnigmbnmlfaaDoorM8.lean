/-
  Texts of the proof, put together.
-/
import Derived.Laws.AppendOwnNone
import Derived.Test.YtjilnigmbnmlfaaDoorM7
import Derived.Test.YtjilnigmbnmlfaaDoorArrL
section
namespace Go.Proofs.YtjilnigmbnmlfaaDoor.P
open Go.RowKit Go.Proofs.YtjilnigmbnmlfaaDoorW.PrintWords Go.Proofs.YtjilnigmbnmlfaaDoorW.PrintLast Go.Proofs.YtjilnigmbnmlfaaDoorW.PrintMore
set_option linter.unusedVariables false
set_option linter.unusedSimpArgs false
theorem cell_below {w w' : World} {a : Addr} {u : Value} (h : w.cell? a = some u) (hb : Below w.heap.size w w') : w'.cell? a = some u :=
  (World.cell?_of_block (hb.block a.block (World.block_lt_of_cell? w a h))).trans h
def longer : Option En → En → Bool
  | none, _ => true
  | some b, e => decide (b.p.n < e.p.n)
theorem clr_tab : ((List.range 256).all fun b => (List.range 8).all fun k => (List.range 8).all fun j => bit8 (clrB (b : Int) k).toNat j == if j = k then 0 else bit8 b j) = true := by kernel_rfl
theorem clr_bit {b : Int} (hb : 0 ≤ b ∧ b ≤ 255) {k j : Nat} (hk : k < 8) (hj : j < 8) : bit8 (clrB b k).toNat j = if j = k then 0 else bit8 b.toNat j := by
  have h1 := List.all_eq_true.1 clr_tab b.toNat (List.mem_range.2 (by omega))
  have h2 := List.all_eq_true.1 h1 k (List.mem_range.2 hk)
  have h3 := List.all_eq_true.1 h2 j (List.mem_range.2 hj)
  rw [beq_iff_eq, Int.toNat_of_nonneg hb.1] at h3
  exact h3
theorem byte_ext {x y : Nat} (hx : x ≤ 255) (hy : y ≤ 255) (h : ∀ k, k < 8 → bit8 x k = bit8 y k) : x = y := by
  have h0 := h 0 (by decide); have h1 := h 1 (by decide); have h2 := h 2 (by decide); have h3 := h 3 (by decide)
  have h4 := h 4 (by decide); have h5 := h 5 (by decide); have h6 := h 6 (by decide); have h7 := h 7 (by decide)
  unfold bit8 at h0 h1 h2 h3 h4 h5 h6 h7
  simp only [Nat.reduceSub, Nat.reducePow, Nat.div_one] at h0 h1 h2 h3 h4 h5 h6 h7
  omega
/-- A bit of the bytes, whatever the family. -/
def bitB (l : List Int) (j : Nat) : Nat := bit8 (byt l (j / 8)).toNat (j % 8)
theorem bitA_of {a : Ad} {j : Nat} (h : (j : Int) < bitsOf a.fam) : bitA a j = (bitB a.bs j : Int) := by
  unfold bitA bitB
  rw [if_neg (by omega), if_neg (by omega), Int.toNat_natCast]
theorem byt_set (l : List Int) (i : Nat) (v : Int) (j : Nat) (hi : i < l.length) : byt (l.set i v) j = if j = i then v else byt l j := by
  unfold byt
  rw [List.getD_eq_getElem?_getD, List.getElem?_set]
  by_cases h : i = j
  · subst h
    rw [if_pos rfl, if_pos rfl, if_pos hi]
    rfl
  · rw [if_neg h, if_neg (fun e => h e.symm), List.getD_eq_getElem?_getD]
theorem bits_ext {x y : Ad} (hx : x.ok) (hy : y.ok) (hf : x.fam = y.fam) (h : ∀ j, j < 128 → bitB x.bs j = bitB y.bs j) : x = y := by
  have e : x.bs = y.bs := bytes_ext hx.1 hy.1 (fun i hi => by
    have h1 := byt_range hx i
    have h2 := byt_range hy i
    have := byte_ext (x := (byt x.bs i).toNat) (y := (byt y.bs i).toNat) (by omega) (by omega) (fun k hk => by
      have := h (i * 8 + k) (by omega)
      unfold bitB at this
      rw [show (i * 8 + k) / 8 = i by omega, show (i * 8 + k) % 8 = k by omega] at this
      exact this)
    omega)
  cases x
  cases y
  cases hf
  cases e
  rfl
/-- What fill leaves of the bits. -/
theorem fill_bits (a : Ad) (ha : a.ok) (n : Int) : ∀ (m : Nat), m ≤ 128 → ∀ j, j < 128 → bitB (fillL a n m) j = if n ≤ (j : Int) ∧ j < m then 0 else bitB a.bs j
  | 0, _, j, _ => by rw [if_neg (by omega)]; rfl
  | m + 1, hm, j, hj => by
    have ih := fill_bits a ha n m (by omega)
    have hok := ok_fillL a ha n m
    by_cases hn : n ≤ (m : Int)
    · rw [fill_step1 a n m hn]
      unfold bitB
      rw [byt_set _ _ _ _ (by have : (fillL a n m).length = 16 := hok.1; omega)]
      by_cases hd : j / 8 = m / 8
      · rw [if_pos hd, clr_bit (byt_range hok _) (Nat.mod_lt _ (by decide)) (Nat.mod_lt _ (by decide))]
        by_cases hjm : j = m
        · subst hjm
          rw [if_pos rfl, if_pos ⟨hn, Nat.lt_succ_self _⟩]
        · rw [if_neg (by omega)]
          have := ih j hj
          unfold bitB at this
          rw [← hd, this]
          by_cases hc : n ≤ (j : Int) ∧ j < m
          · rw [if_pos hc, if_pos ⟨hc.1, by omega⟩]
          · rw [if_neg hc, if_neg (by omega)]
      · rw [if_neg hd]
        have := ih j hj
        unfold bitB at this
        rw [this]
        have hjm : j ≠ m := fun e => hd (by rw [e])
        by_cases hc : n ≤ (j : Int) ∧ j < m
        · rw [if_pos hc, if_pos ⟨hc.1, by omega⟩]
        · rw [if_neg hc, if_neg (by omega)]
    · rw [fill_step2 a n m hn, ih j hj]
      by_cases hc : n ≤ (j : Int) ∧ j < m
      · rw [if_pos hc, if_pos ⟨hc.1, by omega⟩]
      · rw [if_neg hc, if_neg (by omega)]
theorem fillA_bits (a : Ad) (ha : a.ok) (n : Int) (j : Nat) (hj : j < 128) : bitB (fillA a n).bs j = if n ≤ (j : Int) ∧ (j : Int) < bitsOf a.fam then 0 else bitB a.bs j := by
  have hb := bitsOf_le a.fam
  have := fill_bits a ha n (bitsOf a.fam).toNat (by omega) j hj
  unfold fillA
  rw [this]
  by_cases hc : n ≤ (j : Int) ∧ (j : Int) < bitsOf a.fam
  · rw [if_pos hc, if_pos (by omega)]
  · rw [if_neg hc, if_neg (by omega)]
theorem fill_same {a : Ad} (ha : a.ok) (n : Int) : a = fillA a n ↔ ∀ j : Nat, n ≤ (j : Int) → (j : Int) < bitsOf a.fam → bitA a j = 0 := by
  have hb := bitsOf_le a.fam
  constructor
  · intro e j h1 h2
    have := fillA_bits a ha n j (by omega)
    rw [← e, if_pos ⟨h1, h2⟩] at this
    rw [bitA_of h2, this]
    rfl
  · intro h
    refine bits_ext ha (ok_fillA a ha n) rfl (fun j hj => ?_)
    rw [fillA_bits a ha n j hj]
    split
    · rename_i hc
      have := h j hc.1 hc.2
      rw [bitA_of hc.2] at this
      omega
    · rfl
theorem maskN_same (a : Ad) (n : Int) : n = maskN a n ↔ 0 ≤ n ∧ n ≤ bitsOf a.fam := by
  have hb := bitsOf_le a.fam
  unfold maskN
  split
  · split <;> omega
  · split <;> omega
theorem pf_ext {p q : Pf} (h1 : p.a = q.a) (h2 : p.n = q.n) : p = q := by cases p; cases q; cases h1; cases h2; rfl
/-- The program's own check of a prefix is the document's. -/
theorem may_same {p : Pf} (hp : p.a.ok) : mayQ p = mayP p := by
  rw [Bool.eq_iff_iff, mayP_iff]
  unfold mayQ mayPP
  rw [Bool.and_eq_true, Bool.and_eq_true, decide_eq_true_eq, bne_iff_ne]
  constructor
  · rintro ⟨⟨h1, h2⟩, h3⟩
    have hn : p.n = maskN p.a p.n := congrArg Pf.n h3
    have h4 := (maskN_same p.a p.n).1 hn
    have ha : p.a = fillA p.a p.n := by
      conv => lhs; rw [h3]
      unfold maskQ
      rw [← hn]
    exact ⟨h1, h2, h4.1, h4.2, (fill_same hp p.n).1 ha⟩
  · rintro ⟨h1, h2, h3, h4, h5⟩
    have hn := (maskN_same p.a p.n).2 ⟨h3, h4⟩
    refine ⟨⟨h1, h2⟩, pf_ext ?_ hn⟩
    unfold maskQ
    rw [← hn]
    exact (fill_same hp p.n).2 h5
/-! ### the longest prefix that has an address -/
/-! ### addresses that are made such as may be -/
def z12 : List Int := [0, 0, 0, 0, 0, 0, 0, 0, 0, 0, 0, 0]
/-- An address of 32 bits, mapped. -/
def mapA (a : Ad) : Ad := if a.fam = 4 then ⟨6, [0, 0, 0, 0, 0, 0, 0, 0, 0, 0, 255, 255] ++ a.bs.take 4⟩ else a
def ownA (a : Ad) : Ad := ⟨4, a.bs.drop 12 ++ z12⟩
def unmapA (a : Ad) : Ad := if a = mapA (ownA a) then ownA a else a
theorem list16 {l : List Int} (h : l.length = 16) : ∃ b0 b1 b2 b3 b4 b5 b6 b7 b8 b9 b10 b11 b12 b13 b14 b15, l = [b0, b1, b2, b3, b4, b5, b6, b7, b8, b9, b10, b11, b12, b13, b14, b15] := by
  match l, h with
  | [b0, b1, b2, b3, b4, b5, b6, b7, b8, b9, b10, b11, b12, b13, b14, b15], _ => exact ⟨_, _, _, _, _, _, _, _, _, _, _, _, _, _, _, _, rfl⟩
theorem ok_own {a : Ad} (ha : a.ok) : (ownA a).ok := by
  refine ⟨?_, fun x hx => ?_⟩
  · unfold ownA z12
    have := ha.1
    rw [List.length_append, List.length_drop, this]
    rfl
  · rcases List.mem_append.1 hx with h | h
    · exact ha.2 x (List.mem_of_mem_drop h)
    · simp only [z12, List.mem_cons, List.not_mem_nil, or_false] at h
      omega
theorem ok_map {a : Ad} (ha : a.ok) : (mapA a).ok := by
  unfold mapA
  split
  · refine ⟨?_, fun x hx => ?_⟩
    · show ([0, 0, 0, 0, 0, 0, 0, 0, 0, 0, 255, 255] ++ a.bs.take 4 : List Int).length = 16
      rw [List.length_append, List.length_take, ha.1]
      rfl
    · rcases List.mem_append.1 hx with h | h
      · simp only [List.mem_cons, List.not_mem_nil, or_false] at h
        omega
      · exact ha.2 x (List.mem_of_mem_take h)
  · exact ha
theorem ok_unmap {a : Ad} (ha : a.ok) : (unmapA a).ok := by
  unfold unmapA
  split
  · exact ok_own ha
  · exact ha
theorem unmap_four {a : Ad} (h : a.fam = 4) : unmapA a = a := by
  unfold unmapA
  rw [if_neg]
  intro e
  have h2 : (mapA (ownA a)).fam = 6 := rfl
  rw [← e, h] at h2
  exact absurd h2 (by decide)
/-- An address of 32 bits is what its mapped one is. -/
theorem unmap_map {a : Ad} (ha : a.ok) (h : a.fam = 4) (hm : mayA a = true) : unmapA (mapA a) = a := by
  obtain ⟨f, l⟩ := a
  obtain ⟨hl, _⟩ := ha
  obtain ⟨b0, b1, b2, b3, b4, b5, b6, b7, b8, b9, b10, b11, b12, b13, b14, b15, rfl⟩ := list16 hl
  have hf : f = 4 := h
  subst hf
  have hz : b4 = 0 ∧ b5 = 0 ∧ b6 = 0 ∧ b7 = 0 ∧ b8 = 0 ∧ b9 = 0 ∧ b10 = 0 ∧ b11 = 0 ∧ b12 = 0 ∧ b13 = 0 ∧ b14 = 0 ∧ b15 = 0 := by
    simp [mayA, fromA, famB, zerB, byt] at hm
    omega
  obtain ⟨rfl, rfl, rfl, rfl, rfl, rfl, rfl, rfl, rfl, rfl, rfl, rfl⟩ := hz
  have e1 : mapA ⟨4, [b0, b1, b2, b3, 0, 0, 0, 0, 0, 0, 0, 0, 0, 0, 0, 0]⟩ = ⟨6, [0, 0, 0, 0, 0, 0, 0, 0, 0, 0, 255, 255, b0, b1, b2, b3]⟩ := rfl
  rw [e1]
  unfold unmapA
  rw [if_pos (show (⟨6, [0, 0, 0, 0, 0, 0, 0, 0, 0, 0, 255, 255, b0, b1, b2, b3]⟩ : Ad) = mapA (ownA ⟨6, [0, 0, 0, 0, 0, 0, 0, 0, 0, 0, 255, 255, b0, b1, b2, b3]⟩) from rfl)]
  rfl
end Go.Proofs.YtjilnigmbnmlfaaDoor.P
end
