/-
  Texts of the proof, put together.
-/
import Derived.Laws.AppendOwnNone
import Derived.Test.YtjilnigmbnmlfaaDoorM7
import Derived.Test.YtjilnigmbnmlfaaDoorArrL
section
namespace Go.Proofs.YtjilnigmbnmlfaaDoor.P
open Go.RowKit Go.Proofs.YtjilnigmbnmlfaaDoorW.PrintWords Go.Proofs.YtjilnigmbnmlfaaDoorW.PrintLast Go.Proofs.YtjilnigmbnmlfaaDoorW.PrintMore
set_option linter.unusedVariables false
set_option linter.unusedSimpArgs false
theorem cell_below {w w' : World} {a : Addr} {u : Value} (h : w.cell? a = some u) (hb : Below w.heap.size w w') : w'.cell? a = some u :=
  (World.cell?_of_block (hb.block a.block (World.block_lt_of_cell? w a h))).trans h
def longer : Option En → En → Bool
  | none, _ => true
  | some b, e => decide (b.p.n < e.p.n)
theorem clr_tab : ((List.range 256).all fun b => (List.range 8).all fun k => (List.range 8).all fun j => bit8 (clrB (b : Int) k).toNat j == if j = k then 0 else bit8 b j) = true := by kernel_rfl
theorem clr_bit {b : Int} (hb : 0 ≤ b ∧ b ≤ 255) {k j : Nat} (hk : k < 8) (hj : j < 8) : bit8 (clrB b k).toNat j = if j = k then 0 else bit8 b.toNat j := by
  have h1 := List.all_eq_true.1 clr_tab b.toNat (List.mem_range.2 (by omega))
  have h2 := List.all_eq_true.1 h1 k (List.mem_range.2 hk)
  have h3 := List.all_eq_true.1 h2 j (List.mem_range.2 hj)
  rw [beq_iff_eq, Int.toNat_of_nonneg hb.1] at h3
  exact h3
theorem byte_ext {x y : Nat} (hx : x ≤ 255) (hy : y ≤ 255) (h : ∀ k, k < 8 → bit8 x k = bit8 y k) : x = y := by
  have h0 := h 0 (by decide); have h1 := h 1 (by decide); have h2 := h 2 (by decide); have h3 := h 3 (by decide)
  have h4 := h 4 (by decide); have h5 := h 5 (by decide); have h6 := h 6 (by decide); have h7 := h 7 (by decide)
  unfold bit8 at h0 h1 h2 h3 h4 h5 h6 h7
  simp only [Nat.reduceSub, Nat.reducePow, Nat.div_one] at h0 h1 h2 h3 h4 h5 h6 h7
  omega
/-- A bit of the bytes, whatever the family. -/
def bitB (l : List Int) (j : Nat) : Nat := bit8 (byt l (j / 8)).toNat (j % 8)
theorem bitA_of {a : Ad} {j : Nat} (h : (j : Int) < bitsOf a.fam) : bitA a j = (bitB a.bs j : Int) := by
  unfold bitA bitB
  rw [if_neg (by omega), if_neg (by omega), Int.toNat_natCast]
theorem byt_set (l : List Int) (i : Nat) (v : Int) (j : Nat) (hi : i < l.length) : byt (l.set i v) j = if j = i then v else byt l j := by
  unfold byt
  rw [List.getD_eq_getElem?_getD, List.getElem?_set]
  by_cases h : i = j
  · subst h
    rw [if_pos rfl, if_pos rfl, if_pos hi]
    rfl
  · rw [if_neg h, if_neg (fun e => h e.symm), List.getD_eq_getElem?_getD]
theorem bits_ext {x y : Ad} (hx : x.ok) (hy : y.ok) (hf : x.fam = y.fam) (h : ∀ j, j < 128 → bitB x.bs j = bitB y.bs j) : x = y := by
  have e : x.bs = y.bs := bytes_ext hx.1 hy.1 (fun i hi => by
    have h1 := byt_range hx i
    have h2 := byt_range hy i
    have := byte_ext (x := (byt x.bs i).toNat) (y := (byt y.bs i).toNat) (by omega) (by omega) (fun k hk => by
      have := h (i * 8 + k) (by omega)
      unfold bitB at this
      rw [show (i * 8 + k) / 8 = i by omega, show (i * 8 + k) % 8 = k by omega] at this
      exact this)
    omega)
  cases x
  cases y
  cases hf
  cases e
  rfl
/-- What fill leaves of the bits. -/
theorem fill_bits (a : Ad) (ha : a.ok) (n : Int) : ∀ (m : Nat), m ≤ 128 → ∀ j, j < 128 → bitB (fillL a n m) j = if n ≤ (j : Int) ∧ j < m then 0 else bitB a.bs j
  | 0, _, j, _ => by rw [if_neg (by omega)]; rfl
  | m + 1, hm, j, hj => by
    have ih := fill_bits a ha n m (by omega)
    have hok := ok_fillL a ha n m
    by_cases hn : n ≤ (m : Int)
    · rw [fill_step1 a n m hn]
      unfold bitB
      rw [byt_set _ _ _ _ (by have : (fillL a n m).length = 16 := hok.1; omega)]
      by_cases hd : j / 8 = m / 8
      · rw [if_pos hd, clr_bit (byt_range hok _) (Nat.mod_lt _ (by decide)) (Nat.mod_lt _ (by decide))]
        by_cases hjm : j = m
        · subst hjm
          rw [if_pos rfl, if_pos ⟨hn, Nat.lt_succ_self _⟩]
        · rw [if_neg (by omega)]
          have := ih j hj
          unfold bitB at this
          rw [← hd, this]
          by_cases hc : n ≤ (j : Int) ∧ j < m
          · rw [if_pos hc, if_pos ⟨hc.1, by omega⟩]
          · rw [if_neg hc, if_neg (by omega)]
      · rw [if_neg hd]
        have := ih j hj
        unfold bitB at this
        rw [this]
        have hjm : j ≠ m := fun e => hd (by rw [e])
        by_cases hc : n ≤ (j : Int) ∧ j < m
        · rw [if_pos hc, if_pos ⟨hc.1, by omega⟩]
        · rw [if_neg hc, if_neg (by omega)]
    · rw [fill_step2 a n m hn, ih j hj]
      by_cases hc : n ≤ (j : Int) ∧ j < m
      · rw [if_pos hc, if_pos ⟨hc.1, by omega⟩]
      · rw [if_neg hc, if_neg (by omega)]
theorem fillA_bits (a : Ad) (ha : a.ok) (n : Int) (j : Nat) (hj : j < 128) : bitB (fillA a n).bs j = if n ≤ (j : Int) ∧ (j : Int) < bitsOf a.fam then 0 else bitB a.bs j := by
  have hb := bitsOf_le a.fam
  have := fill_bits a ha n (bitsOf a.fam).toNat (by omega) j hj
  unfold fillA
  rw [this]
  by_cases hc : n ≤ (j : Int) ∧ (j : Int) < bitsOf a.fam
  · rw [if_pos hc, if_pos (by omega)]
  · rw [if_neg hc, if_neg (by omega)]
theorem fill_same {a : Ad} (ha : a.ok) (n : Int) : a = fillA a n ↔ ∀ j : Nat, n ≤ (j : Int) → (j : Int) < bitsOf a.fam → bitA a j = 0 := by
  have hb := bitsOf_le a.fam
  constructor
  · intro e j h1 h2
    have := fillA_bits a ha n j (by omega)
    rw [← e, if_pos ⟨h1, h2⟩] at this
    rw [bitA_of h2, this]
    rfl
  · intro h
    refine bits_ext ha (ok_fillA a ha n) rfl (fun j hj => ?_)
    rw [fillA_bits a ha n j hj]
    split
    · rename_i hc
      have := h j hc.1 hc.2
      rw [bitA_of hc.2] at this
      omega
    · rfl
theorem maskN_same (a : Ad) (n : Int) : n = maskN a n ↔ 0 ≤ n ∧ n ≤ bitsOf a.fam := by
  have hb := bitsOf_le a.fam
  unfold maskN
  split
  · split <;> omega
  · split <;> omega
theorem pf_ext {p q : Pf} (h1 : p.a = q.a) (h2 : p.n = q.n) : p = q := by cases p; cases q; cases h1; cases h2; rfl
/-- The program's own check of a prefix is the document's. -/
theorem may_same {p : Pf} (hp : p.a.ok) : mayQ p = mayP p := by
  rw [Bool.eq_iff_iff, mayP_iff]
  unfold mayQ mayPP
  rw [Bool.and_eq_true, Bool.and_eq_true, decide_eq_true_eq, bne_iff_ne]
  constructor
  · rintro ⟨⟨h1, h2⟩, h3⟩
    have hn : p.n = maskN p.a p.n := congrArg Pf.n h3
    have h4 := (maskN_same p.a p.n).1 hn
    have ha : p.a = fillA p.a p.n := by
      conv => lhs; rw [h3]
      unfold maskQ
      rw [← hn]
    exact ⟨h1, h2, h4.1, h4.2, (fill_same hp p.n).1 ha⟩
  · rintro ⟨h1, h2, h3, h4, h5⟩
    have hn := (maskN_same p.a p.n).2 ⟨h3, h4⟩
    refine ⟨⟨h1, h2⟩, pf_ext ?_ hn⟩
    unfold maskQ
    rw [← hn]
    exact (fill_same hp p.n).2 h5
theorem mayA_bits {a : Ad} (ha : a.ok) (h : mayA a = true) (h0 : a.fam ≠ 0) {j : Nat} (hj : j < 128) (hb : bitsOf a.fam ≤ (j : Int)) : bitB a.bs j = 0 := by
  unfold mayA at h
  rw [Bool.and_eq_true, zerB_iff] at h
  obtain ⟨h1, h2⟩ := h
  have hf : a.fam = 4 ∨ a.fam = 6 := by
    unfold famB at h2
    rw [Bool.or_eq_true, Bool.or_eq_true, beq_iff_eq, beq_iff_eq, beq_iff_eq] at h2
    omega
  rcases hf with hf | hf
  · rw [hf] at h1 hb
    have hj8 : 4 ≤ j / 8 := by
      have : (32 : Int) ≤ (j : Int) := hb
      omega
    have := h1 (j / 8) hj8 (by show j / 8 < 4 + (16 - 4); omega)
    unfold bitB
    rw [this]
    show bit8 0 _ = 0
    unfold bit8
    rw [Nat.zero_div]
  · rw [hf] at hb
    have : (128 : Int) ≤ (j : Int) := hb
    omega
theorem mayP_facts {p : Pf} (h : mayP p = true) : mayA p.a = true ∧ p.a.fam ≠ 0 ∧ 0 ≤ p.n ∧ p.n ≤ bitsOf p.a.fam ∧ ∀ j : Nat, p.n ≤ (j : Int) → (j : Int) < bitsOf p.a.fam → bitA p.a j = 0 := (mayP_iff p).1 h
/-- A prefix that may be has an address, that may be, if it is that address, masked. -/
theorem has_mask {p : Pf} (hp : p.a.ok) (hm : mayP p = true) {a : Ad} (ha : a.ok) (hma : mayA a = true) (h0 : a.fam ≠ 0) : hasB p a = true ↔ 0 ≤ p.n ∧ p.n ≤ bitsOf a.fam ∧ p = maskQ a p.n := by
  obtain ⟨m1, m2, m3, m4, m5⟩ := mayP_facts hm
  rw [hasB_iff]
  unfold hasP
  have hb := bitsOf_le a.fam
  constructor
  · rintro ⟨h1, h2⟩
    have hle : p.n ≤ bitsOf a.fam := by rw [← h1]; exact m4
    refine ⟨m3, hle, pf_ext ?_ ((maskN_same a p.n).2 ⟨m3, hle⟩)⟩
    unfold maskQ
    rw [← (maskN_same a p.n).2 ⟨m3, hle⟩]
    refine bits_ext hp (ok_fillA a ha _) h1 (fun j hj => ?_)
    rw [fillA_bits a ha _ j hj]
    split
    · rename_i hc
      have := m5 j hc.1 (by rw [h1]; exact hc.2)
      rw [bitA_of (by rw [h1]; exact hc.2)] at this
      omega
    · rename_i hc
      by_cases hj2 : (j : Int) < bitsOf a.fam
      · have := h2 j (by omega)
        rw [bitA_of (by rw [h1]; exact hj2), bitA_of hj2] at this
        omega
      · rw [mayA_bits ha hma h0 hj (by omega), mayA_bits hp m1 m2 hj (by rw [h1]; omega)]
  · rintro ⟨h1, h2, h3⟩
    have hn := (maskN_same a p.n).2 ⟨h1, h2⟩
    have hpa : p.a = fillA a p.n := by
      conv => lhs; rw [h3]
      unfold maskQ
      rw [← hn]
    have hf : p.a.fam = a.fam := by rw [hpa]; rfl
    refine ⟨hf, fun j hj => ?_⟩
    have hj2 : (j : Int) < bitsOf a.fam := by omega
    rw [bitA_of (by rw [hf]; exact hj2), bitA_of hj2, hpa, fillA_bits a ha _ j (by omega), if_neg (by omega)]
/-! ### the longest prefix that has an address -/
/-- What is found: the longest of the prefixes that have the address; none, if none has it. -/
def Best (l : List En) (a : Ad) : Option En → Prop
  | none => ∀ e ∈ l, hasB e.p a = false
  | some e => e ∈ l ∧ hasB e.p a = true ∧ ∀ x ∈ l, hasB x.p a = true → x.p.n ≤ e.p.n
theorem sorted_inj : ∀ {l : List En}, okE l → Sorted l → ∀ {x y : En}, x ∈ l → y ∈ l → x.p = y.p → x = y
  | [], _, _, x, y, hx, _, _ => by cases hx
  | e :: l, hl, hs, x, y, hx, hy, h => by
    obtain ⟨h1, h2⟩ := List.pairwise_cons.1 hs
    have hself : ∀ z : En, z ∈ l → z.p = e.p → False := fun z hz he => by
      have k := h1 z hz
      rw [he, (cmpP_zero (hl e (List.mem_cons_self ..)) (hl e (List.mem_cons_self ..))).2 rfl] at k
      exact absurd k (by decide)
    rcases List.mem_cons.1 hx with hx' | hx'
    · rcases List.mem_cons.1 hy with hy' | hy'
      · rw [hx', hy']
      · exact (hself y hy' (by rw [← h, hx'])).elim
    · rcases List.mem_cons.1 hy with hy' | hy'
      · exact (hself x hx' (by rw [h, hy'])).elim
      · exact sorted_inj (fun z hz => hl z (List.mem_cons_of_mem _ hz)) h2 hx' hy' h
theorem best_one {l : List En} (hl : okE l) (hs : Sorted l) (hm : ∀ e ∈ l, mayP e.p = true) {a : Ad} (ha : a.ok) (hma : mayA a = true) (h0 : a.fam ≠ 0) : ∀ {r s : Option En}, Best l a r → Best l a s → r = s
  | none, none, _, _ => rfl
  | none, some e, h1, h2 => by have := h1 e h2.1; rw [h2.2.1] at this; cases this
  | some e, none, h1, h2 => by have := h2 e h1.1; rw [h1.2.1] at this; cases this
  | some x, some y, h1, h2 => by
    have k1 := h1.2.2 y h2.1 h2.2.1
    have k2 := h2.2.2 x h1.1 h1.2.1
    have e1 := ((has_mask (hl x h1.1) (hm x h1.1) ha hma h0).1 h1.2.1).2.2
    have e2 := ((has_mask (hl y h2.1) (hm y h2.1) ha hma h0).1 h2.2.1).2.2
    have hn : x.p.n = y.p.n := by omega
    rw [sorted_inj hl hs h1.1 h2.1 (by rw [e1, e2, hn])]
theorem get_some {l : List En} {p : Pf} (h : hasE l p = true) : ∃ e, getE l p = some e ∧ e ∈ l ∧ e.p = p := by
  unfold hasE at h
  rw [List.any_eq_true] at h
  obtain ⟨x, hx, hxp⟩ := h
  cases hg : getE l p with
  | none =>
    unfold getE at hg
    rw [List.find?_eq_none] at hg
    exact absurd hxp (hg x hx)
  | some e =>
    have h1 := List.find?_some hg
    rw [decide_eq_true_eq] at h1
    exact ⟨e, rfl, List.mem_of_find?_eq_some hg, h1⟩
theorem has_not {l : List En} {p : Pf} (h : hasE l p = false) {x : En} (hx : x ∈ l) : x.p ≠ p := by
  unfold hasE at h
  rw [List.any_eq_false] at h
  have := h x hx
  rw [decide_eq_true_eq] at this
  exact this
theorem maskQ_n (a : Ad) (n : Int) (h : 0 ≤ n ∧ n ≤ bitsOf a.fam) : (maskQ a n).n = n := ((maskN_same a n).2 h).symm
theorem find_best {l : List En} (hl : okE l) (hm : ∀ e ∈ l, mayP e.p = true) {a : Ad} (ha : a.ok) (hma : mayA a = true) (h0 : a.fam ≠ 0) : ∀ n : Nat, (n : Int) ≤ bitsOf a.fam → (∀ x ∈ l, hasB x.p a = true → x.p.n ≤ (n : Int)) → Best l a (findL l a n) := by
  have hit : ∀ (n : Nat), (n : Int) ≤ bitsOf a.fam → (∀ x ∈ l, hasB x.p a = true → x.p.n ≤ (n : Int)) → hasE l (maskQ a (n : Int)) = true → Best l a (getE l (maskQ a (n : Int))) := by
    intro n hn hx hh
    obtain ⟨e, h1, h2, h3⟩ := get_some hh
    rw [h1]
    have hen : e.p.n = (n : Int) := by rw [h3]; exact maskQ_n a _ ⟨by omega, hn⟩
    exact ⟨h2, (has_mask (hl e h2) (hm e h2) ha hma h0).2 ⟨by omega, by omega, by rw [hen]; exact h3⟩, fun x k1 k2 => by rw [hen]; exact hx x k1 k2⟩
  intro n
  induction n with
  | zero =>
    intro hn hx
    unfold findL
    cases hh : hasE l (maskQ a 0) with
    | true => exact hit 0 hn hx hh
    | false =>
      rw [get_none hh]
      intro x hxl
      cases hb : hasB x.p a with
      | false => rfl
      | true =>
        obtain ⟨k1, k2, k3⟩ := (has_mask (hl x hxl) (hm x hxl) ha hma h0).1 hb
        have k4 := hx x hxl hb
        have k5 : x.p.n = 0 := by
          have : x.p.n ≤ 0 := k4
          omega
        rw [k5] at k3
        exact absurd k3 (has_not hh hxl)
  | succ n ih =>
    intro hn hx
    unfold findL
    cases hh : hasE l (maskQ a ((n + 1 : Nat) : Int)) with
    | true =>
      rw [if_pos rfl]
      exact hit (n + 1) hn hx hh
    | false =>
      rw [if_neg (by decide)]
      refine ih (by omega) (fun x hxl hb => ?_)
      obtain ⟨k1, k2, k3⟩ := (has_mask (hl x hxl) (hm x hxl) ha hma h0).1 hb
      have k4 := hx x hxl hb
      by_cases hc : x.p.n = ((n + 1 : Nat) : Int)
      · rw [hc] at k3
        exact absurd k3 (has_not hh hxl)
      · omega
theorem findQ_best {l : List En} (hl : okE l) (hm : ∀ e ∈ l, mayP e.p = true) {a : Ad} (ha : a.ok) (hma : mayA a = true) (h0 : a.fam ≠ 0) : Best l a (findQ l a) := by
  have hb := bitsOf_le a.fam
  unfold findQ findI
  rw [if_neg h0, if_neg (by omega)]
  refine find_best hl hm ha hma h0 _ (by omega) (fun x hx hh => ?_)
  have := ((has_mask (hl x hx) (hm x hx) ha hma h0).1 hh).2.1
  omega
/-! ### addresses that are made such as may be -/
theorem four_tail (n : Int) (h0 : 0 ≤ n) (h1 : n < 4294967296) : mayA (of4 n) = true := by
  rw [of4_eq n h0 h1]
  rfl
theorem goodA_may {a : Ad} (ha : a.ok) : mayA (goodA a) = true ∧ (goodA a).fam ≠ 0 := by
  unfold goodA
  split
  · obtain ⟨h1, h2, _⟩ := four_bytes a.bs (byt_range ha)
    exact ⟨four_tail _ h1 h2, by show (4 : Int) ≠ 0; decide⟩
  · exact ⟨rfl, by show (6 : Int) ≠ 0; decide⟩
def z12 : List Int := [0, 0, 0, 0, 0, 0, 0, 0, 0, 0, 0, 0]
/-- An address of 32 bits, mapped. -/
def mapA (a : Ad) : Ad := if a.fam = 4 then ⟨6, [0, 0, 0, 0, 0, 0, 0, 0, 0, 0, 255, 255] ++ a.bs.take 4⟩ else a
def ownA (a : Ad) : Ad := ⟨4, a.bs.drop 12 ++ z12⟩
def unmapA (a : Ad) : Ad := if a = mapA (ownA a) then ownA a else a
def grp (l : List Int) (i : Nat) : Int := byt l (2 * i) * 256 + byt l (2 * i + 1)
def mappedB (g : Nat → Int) : Bool := g 0 == 0 && g 1 == 0 && g 2 == 0 && g 3 == 0 && g 4 == 0 && g 5 == 65535
def unmapR (a : Ad) : Ad := if a.fam = 6 ∧ mappedB (grp a.bs) = true then of4 (grp a.bs 6 * 65536 + grp a.bs 7) else a
theorem list16 {l : List Int} (h : l.length = 16) : ∃ b0 b1 b2 b3 b4 b5 b6 b7 b8 b9 b10 b11 b12 b13 b14 b15, l = [b0, b1, b2, b3, b4, b5, b6, b7, b8, b9, b10, b11, b12, b13, b14, b15] := by
  match l, h with
  | [b0, b1, b2, b3, b4, b5, b6, b7, b8, b9, b10, b11, b12, b13, b14, b15], _ => exact ⟨_, _, _, _, _, _, _, _, _, _, _, _, _, _, _, _, rfl⟩
theorem unmap_same {a : Ad} (ha : a.ok) : unmapA a = unmapR a := by
  obtain ⟨f, l⟩ := a
  obtain ⟨hl, hb⟩ := ha
  obtain ⟨b0, b1, b2, b3, b4, b5, b6, b7, b8, b9, b10, b11, b12, b13, b14, b15, rfl⟩ := list16 hl
  simp only [List.mem_cons, List.not_mem_nil, or_false, forall_eq_or_imp, forall_eq] at hb
  have e1 : mapA (ownA ⟨f, [b0, b1, b2, b3, b4, b5, b6, b7, b8, b9, b10, b11, b12, b13, b14, b15]⟩) = ⟨6, [0, 0, 0, 0, 0, 0, 0, 0, 0, 0, 255, 255, b12, b13, b14, b15]⟩ := rfl
  have e2 : ownA ⟨f, [b0, b1, b2, b3, b4, b5, b6, b7, b8, b9, b10, b11, b12, b13, b14, b15]⟩ = ⟨4, [b12, b13, b14, b15, 0, 0, 0, 0, 0, 0, 0, 0, 0, 0, 0, 0]⟩ := rfl
  unfold unmapA unmapR
  rw [e1, e2]
  have e3 : of4 (grp [b0, b1, b2, b3, b4, b5, b6, b7, b8, b9, b10, b11, b12, b13, b14, b15] 6 * 65536 + grp [b0, b1, b2, b3, b4, b5, b6, b7, b8, b9, b10, b11, b12, b13, b14, b15] 7) = ⟨4, [b12, b13, b14, b15, 0, 0, 0, 0, 0, 0, 0, 0, 0, 0, 0, 0]⟩ := by
    show of4 ((b12 * 256 + b13) * 65536 + (b14 * 256 + b15)) = _
    rw [of4_eq _ (by omega) (by omega)]
    show (⟨4, [((b12 * 256 + b13) * 65536 + (b14 * 256 + b15)) / 16777216 % 256, ((b12 * 256 + b13) * 65536 + (b14 * 256 + b15)) / 65536 % 256, ((b12 * 256 + b13) * 65536 + (b14 * 256 + b15)) / 256 % 256, ((b12 * 256 + b13) * 65536 + (b14 * 256 + b15)) % 256, 0, 0, 0, 0, 0, 0, 0, 0, 0, 0, 0, 0]⟩ : Ad) = _
    rw [show ((b12 * 256 + b13) * 65536 + (b14 * 256 + b15)) / 16777216 % 256 = b12 by omega, show ((b12 * 256 + b13) * 65536 + (b14 * 256 + b15)) / 65536 % 256 = b13 by omega, show ((b12 * 256 + b13) * 65536 + (b14 * 256 + b15)) / 256 % 256 = b14 by omega, show ((b12 * 256 + b13) * 65536 + (b14 * 256 + b15)) % 256 = b15 by omega]
  dsimp only
  by_cases h : f = 6 ∧ mappedB (grp [b0, b1, b2, b3, b4, b5, b6, b7, b8, b9, b10, b11, b12, b13, b14, b15]) = true
  · rw [if_pos h, e3, if_pos]
    obtain ⟨rfl, hm⟩ := h
    simp [mappedB, grp, byt] at hm
    have : b0 = 0 ∧ b1 = 0 ∧ b2 = 0 ∧ b3 = 0 ∧ b4 = 0 ∧ b5 = 0 ∧ b6 = 0 ∧ b7 = 0 ∧ b8 = 0 ∧ b9 = 0 ∧ b10 = 255 ∧ b11 = 255 := by omega
    obtain ⟨rfl, rfl, rfl, rfl, rfl, rfl, rfl, rfl, rfl, rfl, rfl, rfl⟩ := this
    rfl
  · rw [if_neg h, if_neg]
    intro he
    injection he with h1 h2
    simp only [List.cons.injEq, and_true] at h2
    apply h
    obtain ⟨rfl, rfl, rfl, rfl, rfl, rfl, rfl, rfl, rfl, rfl, rfl, rfl, _⟩ := h2
    exact ⟨h1, rfl⟩
theorem ok_own {a : Ad} (ha : a.ok) : (ownA a).ok := by
  refine ⟨?_, fun x hx => ?_⟩
  · unfold ownA z12
    have := ha.1
    rw [List.length_append, List.length_drop, this]
    rfl
  · rcases List.mem_append.1 hx with h | h
    · exact ha.2 x (List.mem_of_mem_drop h)
    · simp only [z12, List.mem_cons, List.not_mem_nil, or_false] at h
      omega
theorem ok_map {a : Ad} (ha : a.ok) : (mapA a).ok := by
  unfold mapA
  split
  · refine ⟨?_, fun x hx => ?_⟩
    · show ([0, 0, 0, 0, 0, 0, 0, 0, 0, 0, 255, 255] ++ a.bs.take 4 : List Int).length = 16
      rw [List.length_append, List.length_take, ha.1]
      rfl
    · rcases List.mem_append.1 hx with h | h
      · simp only [List.mem_cons, List.not_mem_nil, or_false] at h
        omega
      · exact ha.2 x (List.mem_of_mem_take h)
  · exact ha
theorem ok_unmap {a : Ad} (ha : a.ok) : (unmapA a).ok := by
  unfold unmapA
  split
  · exact ok_own ha
  · exact ha
end Go.Proofs.YtjilnigmbnmlfaaDoor.P
end
