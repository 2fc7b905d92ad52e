/-
  An address's entry, as the program finds it.
-/
import Derived.Test.YthjhbhgfckaklaaM6
namespace Go.Proofs.Ythjhbhgfckaklaa.P
open Go.RowKit Go.Proofs.YthjhbhgfckaklaaW.PrintWords Go.Proofs.YthjhbhgfckaklaaW.PrintLast Go.Proofs.YthjhbhgfckaklaaW.PrintMore
set_option linter.unusedVariables false
set_option linter.unusedSimpArgs false
/-- The entry of the longest prefix, of so many bits or fewer, that an address is cut down to. -/
def findL (l : List En) (a : Ad) : Nat → Option En
  | 0 => getE l (maskQ a 0)
  | n + 1 => if hasE l (maskQ a ((n + 1 : Nat) : Int)) then getE l (maskQ a ((n + 1 : Nat) : Int)) else findL l a n
def findI (l : List En) (a : Ad) (z : Int) : Option En := if z < 0 then none else findL l a z.toNat
def findQ (l : List En) (a : Ad) : Option En := if a.fam = 0 then none else findI l a (bitsOf a.fam)
theorem get_none {l : List En} {p : Pf} (h : hasE l p = false) : getE l p = none := by
  unfold getE
  rw [List.find?_eq_none]
  intro e he h2
  unfold hasE at h
  rw [List.any_eq_true.2 ⟨e, he, h2⟩] at h
  cases h
theorem findI_yes {l : List En} {a : Ad} {z : Int} (h0 : 0 ≤ z) (h : hasE l (maskQ a z) = true) : findI l a z = getE l (maskQ a z) := by
  obtain ⟨n, rfl⟩ := Int.eq_ofNat_of_zero_le h0
  unfold findI
  rw [if_neg (by omega), Int.toNat_natCast]
  cases n with
  | zero => rfl
  | succ n => rw [findL, if_pos h]
theorem findI_no {l : List En} {a : Ad} {z : Int} (h0 : 0 ≤ z) (h : hasE l (maskQ a z) = false) : findI l a z = findI l a (z - 1) := by
  obtain ⟨n, rfl⟩ := Int.eq_ofNat_of_zero_le h0
  unfold findI
  rw [if_neg (by omega), Int.toNat_natCast]
  cases n with
  | zero => rw [if_pos (by omega)]; exact get_none h
  | succ n =>
    rw [if_neg (by omega), findL, if_neg (by rw [h]; decide)]
    congr 1
    omega
theorem infoEE {e : En} (h : e.p.a.ok) : (Try.prog.info? 42).map (·.size) = some (eE e).size := by rw [eE_size h]; exact infoEn
theorem ok_noE : noE.p.a.ok := ok_noA
theorem results_cell_tmp {P : Program} {fn : Func} {p u : Tmp} {ty : TypeId} (h : fn.results = #[.cell p ty, .tmp u]) (tmps : Array Value) (w : World) (g : Nat) (t : TypeId) (cs : Array Value) (fr : Nat × Nat) (d : TypeDesc)
    (hp : tmps.getD p undef = .pointer (some ⟨g, 0, none⟩)) (hg : w.heap[g]? = some (.cells cs t fr))
    (hu : P.underlying ty = some d) (hd : (match d with | .struct _ | .array _ _ => true | _ => false) = true) (hi : (P.info? ty).map (·.size) = some cs.size) :
    (results fn tmps).run P w = .ok (.tuple #[.agg cs, tmps.getD u undef]) w := by
  have hp' : tmps[p]?.getD undef = .pointer (some ⟨g, 0, none⟩) := by simpa using hp
  simp [results, h, hp', asAddr, run_loadVar_row w g t ty cs fr d hg hu hd hi]
theorem ticks_row {sb so : Nat} {w w' : World} {k : Int} (h : Ticks sb so w w' k) {g : Nat} (hg : w.heap.size ≤ g) (hn : g ≠ sb) (cells : Array Value) : Ticks sb so w (w'.setRow g cells) k :=
  ⟨h.os, h.tape, h.output, by rw [row_size]; exact h.size, fun b hb hne => (row_far (show b ≠ g by omega)).trans (h.block b hb hne), fun cs t hc => (row_far (fun e => hn e.symm)).trans (h.same cs t hc)⟩
theorem find_bound {f z : Int} {i m m2 n : Nat} (h1 : z + (i : Int) = bitsOf f) (h2 : 0 ≤ z) (h3 : m ≤ i * (n + 1)) (h4 : m2 ≤ n + 1) : m + m2 ≤ 129 * (n + 1) := by
  have h5 : i ≤ 128 := by have := bitsOf_le f; omega
  have h6 : i * (n + 1) ≤ 128 * (n + 1) := Nat.mul_le_mul_right _ h5
  omega
/-- What Find's world knows. -/
structure Fs (w : World) (T g3 g4 G : Nat) (sl : Value) (st : Int) (a : Ad) (l : List En) (wr : World) (m : Nat) : Prop where
  tgt : wr.heap[g3]? = some (.cells (eA a) 34 (0, 0))
  out : wr.heap[g4]? = some (.cells (eE noE) 42 (0, 0))
  at_ : ∀ (i : Nat) (e : En), l[i]? = some e → wr.rangeAt G (i * 19) (lE e)
  tab : wr.heap[T]? = some (.cells #[sl, .int .i64 (st + (m : Int))] 90 (0, 0))
  tck : Ticks T 1 w wr (st + (m : Int))
theorem fs_below {w : World} {T g3 g4 G : Nat} {sl : Value} {st : Int} {a : Ad} {l : List En} {wr w' : World} {m : Nat} (h : Fs w T g3 g4 G sl st a l wr m) (hb : Below wr.heap.size wr w') : Fs w T g3 g4 G sl st a l w' m :=
  ⟨blk_below h.tgt hb, blk_below h.out hb, fun i e he => range_below (h.at_ i e he) hb, blk_below h.tab hb, ticks_below h.tck hb⟩
theorem fs_ticks {w : World} {T g3 g4 G : Nat} {sl : Value} {st : Int} {a : Ad} {l : List En} {wr w' : World} {m k : Nat} (h : Fs w T g3 g4 G sl st a l wr m) (h1 : g3 ≠ T) (h2 : g4 ≠ T) (h3 : G ≠ T) (ht : Ticks T 1 wr w' (st + (m : Int) + (k : Int))) : Fs w T g3 g4 G sl st a l w' (m + k) := by
  have e : st + (m : Int) + (k : Int) = st + ((m + k : Nat) : Int) := by omega
  rw [e] at ht
  exact ⟨ticks_blk ht h.tgt h1, ticks_blk ht h.out h2, fun i e he => ticks_range ht (h.at_ i e he) h3, ht.same _ _ h.tab, ticks_trans h.tck ht⟩
theorem rd_of_fs {w : World} {T g3 g4 G n cap : Nat} {A : Option Addr} {sl : Value} {st : Int} {a : Ad} {l : List En} {w0 wr : World} {m : Nat} (h : Fs w T g3 g4 G sl st a l wr m) (hr : Rd w0 50 A n cap G l) : Rd wr 50 A n cap G l := ⟨hr.len, hr.idx, h.at_⟩
theorem wrap_dn (z : Int) (h0 : 0 ≤ z) (h1 : z ≤ 1000) : wrap64 (z - 1) = z - 1 := by unfold wrap64; omega
set_option maxHeartbeats 8000000 in
set_option maxRecDepth 100000 in
theorem table_Find (T base : Nat) (st : Int) (v : Value) (l : List En) (a : Ad) (ha : a.ok) (w : World) (ht : Tb w T base st v l) (hs : Sorted l) (hn : l.length ≤ 1000) (hst : 0 ≤ st ∧ st ≤ 100000000) :
    Calls Try.prog 20 #[.pointer (some ⟨T, 0, none⟩), .agg (eA a)] w fun r w' => ∃ m : Nat, r = .returned (.tuple #[.agg (eE ((findQ l a).getD noE)), .bool (findQ l a).isSome]) ∧ m ≤ 129 * (blen l.length + 1) ∧ Ticks T 1 w w' (st + (m : Int)) := by
  have HA := Aside0.mk ha
  have HS := Aside0.mk hs
  have HN := Aside0.mk hn
  have HOK := Aside0.mk ht.ok
  have HTB := Aside0.mk ht.blk
  have HST := Aside0.mk hst
  obtain ⟨A, cap, G, rfl, hrd, hG⟩ := rd_of_row ht.row ht.ok 50 (fun g n cap i w hi => idx_en g n cap i w hi) (T + 1)
  have HG := Aside0.mk (show G ≠ T by
    rcases hG with ⟨rfl, _⟩ | ⟨cur, hg, _⟩
    · omega
    · intro e
      rw [e, ht.blk] at hg
      cases hg)
  have HRD := Aside0.mk hrd
  have HT0 := Aside0.mk (ticks_refl (so := 1) (k := st) ht.blk rfl)
  have HB := Aside0.mk (Below.refl w.heap.size w)
  clear ha hs hn hst hrd hG
  by_cases hz : a.fam = 0
  · have c0 : (a.fam == 0) = true := by simpa using hz
    have HR := Aside0.mk (show findQ l a = none from if_pos hz)
    clear hz ht
    go_enter Try.func20, Try.ntmps20
    go_wp2_with (first
      | ((with_reducible refine gate_dst (N := 3) rfl ?_); refine box_event ?hg (N := 3) ?hd (cs := eA a) (t := 34) ?hr ?_; (case hd => rfl); (case hg => rfl); (case hr => first | (go_simp; done) | (go_simp; rfl)); intro g3 hg w1 hbox hb; have HX := Aside0.mk hbox; replace HB := Aside0.mk (below_step (bel_later HB.out) hb); clear hb hg hbox)
      | ((with_reducible refine gate_dst (N := 4) rfl ?_); refine box_event ?hg (N := 4) ?hd (cs := eE noE) (t := 42) ?hr ?_; (case hd => rfl); (case hg => rfl); (case hr => first | (go_simp; done) | (go_simp; rfl)); intro g4 hg w2 hbox hb; have HY := Aside0.mk hbox; have h0 := (blk_cell (blk_below (blk_later HX.out) hb) 0).trans (eA_fam a); have HG4 := Aside0.mk (show w.heap.size ≤ g4 by rw [hg]; exact below_size (bel_later HB.out)); replace HB := Aside0.mk (below_step (bel_later HB.out) hb); clear hb hg hbox)
      | ((with_reducible refine gate_store (t := 42) (p := 4) rfl ?_); refine wpList_store_row rfl 42 (.tmp 4) (.tmp 12) rfl g4 (eE noE) rfl rfl 42 (eE noE) HY.out (infoEE ok_noE) rfl (eE_one _) ?_; replace HY := Aside0.mk (row_new (cells := eE noE) HY.out); replace HB := Aside0.mk (below_row HB.out HG4.out (eE noE)); generalize w2.setRow g4 (eE noE) = w3 at HY HB ⊢))
    refine bodyPost_ret (results_cell_tmp rfl _ _ g4 42 (eE noE) (0, 0) _ rfl HY.out Try.underlying42 rfl (infoEE ok_noE)) rfl ?_
    exact ⟨0, by rw [HR.out]; rfl, Nat.zero_le _, by rw [show st + ((0 : Nat) : Int) = st by omega]; exact ticks_below HT0.out HB.out⟩
  · have c0 : (a.fam == 0) = false := by simpa using hz
    have HR := Aside0.mk (show findQ l a = findI l a (bitsOf a.fam) from if_neg hz)
    clear hz ht
    go_enter Try.func20, Try.ntmps20
    go_wp2_with (first
      | ((with_reducible refine gate_dst (N := 3) rfl ?_); refine box_event ?hg (N := 3) ?hd (cs := eA a) (t := 34) ?hr ?_; (case hd => rfl); (case hg => rfl); (case hr => first | (go_simp; done) | (go_simp; rfl)); intro g3 hg w1 hbox hb; have HX := Aside0.mk hbox; have HN3 := Aside0.mk (show g3 ≠ T by rw [hg]; exact Ne.symm (Nat.ne_of_lt (blk_lt (blk_below (blk_later HTB.out) (bel_later HB.out))))); replace HB := Aside0.mk (below_step (bel_later HB.out) hb); clear hb hg hbox)
      | ((with_reducible refine gate_dst (N := 4) rfl ?_); refine box_event ?hg (N := 4) ?hd (cs := eE noE) (t := 42) ?hr ?_; (case hd => rfl); (case hg => rfl); (case hr => first | (go_simp; done) | (go_simp; rfl)); intro g4 hg w2 hbox hb; have HY := Aside0.mk hbox; have HN4 := Aside0.mk (show g4 ≠ T by rw [hg]; exact Ne.symm (Nat.ne_of_lt (blk_lt (blk_below (blk_later HTB.out) (bel_later HB.out))))); have HG4 := Aside0.mk (show w.heap.size ≤ g4 by rw [hg]; exact below_size (bel_later HB.out)); replace HX := Aside0.mk (blk_below (blk_later HX.out) hb); have h0 := (blk_cell HX.out 0).trans (eA_fam a); replace HB := Aside0.mk (below_step (bel_later HB.out) hb); clear hb hg hbox)
      | ((with_reducible refine gate_dst (N := 13) rfl ?_); refine wpList_load_row rfl 34 (.tmp 3) rfl g3 rfl 34 (eA a) (0, 0) _ HX.out Try.underlying34 rfl (infoE HA.out) ?_)
      | (go_at_call 45; refine (addr_Bits a w2).mono ?_; rintro e w3 ⟨rfl, hb⟩; have HBB := Aside0.mk (below_step HB.out hb); have HF := Aside0.mk (show Fs w T g3 g4 G (.slice A l.length cap) st a l w3 0 from ⟨blk_below HX.out hb, blk_below HY.out hb, fun i e he => range_below (HRD.out.at_ i e he) (below_step HB.out hb), by rw [show st + ((0 : Nat) : Int) = st by omega]; exact blk_below HTB.out (below_step HB.out hb), by rw [show st + ((0 : Nat) : Int) = st by omega]; exact ticks_below HT0.out (below_step HB.out hb)⟩); clear hb h0))
    go_loopw [6] (fun v6 wr => ∃ (z : Int) (m i : Nat), v6 = .int .i64 z ∧ Aside0 (z + (i : Int) = bitsOf a.fam ∧ -1 ≤ z ∧ m ≤ i * (blen l.length + 1)) ∧ Aside0 (findQ l a = findI l a z) ∧ Aside0 (Fs w T g3 g4 G (.slice A l.length cap) st a l wr m)) (fun v6 _ => (intOf v6 + 1).toNat)
    case atStart => exact ⟨bitsOf a.fam, 0, 0, rfl, ⟨by omega, by have := bitsOf_le a.fam; omega, Nat.zero_le _⟩, HR, HF⟩
    case round =>
      obtain ⟨z, m, i, rfl, HI, HFI, HST2⟩ := hrel
      clear HF
      by_cases hz0 : 0 ≤ z
      · have c1 : decide (0 ≤ z) = true := decide_eq_true hz0
        have HZ := Aside0.mk (show 0 ≤ z ∧ z ≤ 128 from ⟨hz0, by have := HI.out.1; have := bitsOf_le a.fam; omega⟩)
        have HPO := Aside0.mk (ok_maskQ a HA.out z)
        have HFO := Aside0.mk (found_pure HOK.out HS.out HPO.out)
        have HBL := Aside0.mk (show blen l.length ≤ 1000 by have := blen_le l.length; have := HN.out; omega)
        have HML := Aside0.mk (show m ≤ 200000 by
          have h1 := HI.out.2.2
          have h2 : i ≤ 130 := by have := HI.out; have := bitsOf_le a.fam; omega
          have h3 : i * (blen l.length + 1) ≤ 130 * (1000 + 1) := Nat.mul_le_mul h2 (by have := HBL.out; omega)
          omega)
        obtain ⟨b, hb⟩ : ∃ b, hasE l (maskQ a z) = b := ⟨_, rfl⟩
        obtain ⟨x0, hx0⟩ : ∃ x0, idxE l (maskQ a z) = x0 := ⟨_, rfl⟩
        have HBV := Aside0.mk hb
        rw [hb, hx0] at HFO
        clear hb hx0
        cases b
        · have HR2 := Aside0.mk (HFI.out.trans (findI_no HZ.out.1 HBV.out))
          have e4 : wrap64 (z - 1) = z - 1 := wrap_dn z HZ.out.1 (by have := HZ.out; omega)
          have HE4 := Aside0.mk e4
          go_wp2
          obtain ⟨S, hS⟩ : ∃ S : World → Prop, S = fun w' => ∃ m' : Nat, Fs w T g3 g4 G (.slice A l.length cap) st a l w' m' := ⟨_, rfl⟩
          have HSx := Aside0.mk (show ∀ x : World, S x → x.heap[g3]? = some (.cells (eA a) 34 (0, 0)) ∧ x.cell? ⟨T, 0, none⟩ = some (.slice A l.length cap) by
            intro b h
            rw [hS] at h
            obtain ⟨m', h⟩ := h
            exact ⟨h.tgt, blk_cell h.tab 0⟩)
          have HSy := Aside0.mk (show ∀ (x : World) (m' : Nat), Fs w T g3 g4 G (.slice A l.length cap) st a l x m' → S x by
            intro b m' h
            rw [hS]
            exact ⟨m', h⟩)
          clear hS
          have HD := Aside0.mk (fs_below HST2.out (show Below wr.heap.size wr wr.drew from bel_later (Below.refl _ _)))
          have s0 : S wr.drew := HSy.out _ m HD.out
          refine wp_region_held_drew (S := S) (by kernel_rfl) s0 (fun _ => ?_)
          refine wpAnyH_take (i := 0) (v := .pointer (some ⟨T, 0, none⟩)) rfl (by kernel_rfl) (by kernel_rfl) (by kernel_rfl) (fun _ _ _ h => h) (Or.inl ⟨by kernel_rfl, fun w' h => by first | (go_simp; done) | (go_simp; rfl)⟩) s0 ?_
          (try simp only [Act.put, List.getElem_toArray, List.getElem_cons_succ, List.getElem_cons_zero, List.setIfInBounds_toArray, List.set_cons_zero, List.set_cons_succ])
          refine wpAnyH_take (i := 1) (v := .pointer (some ⟨T, 0, none⟩)) rfl (by kernel_rfl) (by kernel_rfl) (by kernel_rfl) (fun _ _ _ h => h) (Or.inl ⟨by kernel_rfl, fun w' h => by first | (go_simp; done) | (go_simp; rfl)⟩) s0 ?_
          (try simp only [Act.put, List.getElem_toArray, List.getElem_cons_succ, List.getElem_cons_zero, List.setIfInBounds_toArray, List.set_cons_zero, List.set_cons_succ])
          refine wpAnyH_take (i := 2) (v := .pointer (some ⟨T, 0, none⟩)) rfl (by kernel_rfl) (by kernel_rfl) (by kernel_rfl) (fun _ _ _ h => h) (Or.inl ⟨by kernel_rfl, fun w' h => by first | (go_simp; done) | (go_simp; rfl)⟩) s0 ?_
          (try simp only [Act.put, List.getElem_toArray, List.getElem_cons_succ, List.getElem_cons_zero, List.setIfInBounds_toArray, List.set_cons_zero, List.set_cons_succ])
          refine wpAnyH_take (i := 3) (v := .slice A l.length cap) rfl (by kernel_rfl) (by kernel_rfl) (by kernel_rfl) (fun _ _ _ h => h) (Or.inl ⟨by kernel_rfl, fun w' h => by have hf := (HSx.out w' h).2; first | (go_simp; done) | (go_simp; rfl)⟩) s0 ?_
          (try simp only [Act.put, List.getElem_toArray, List.getElem_cons_succ, List.getElem_cons_zero, List.setIfInBounds_toArray, List.set_cons_zero, List.set_cons_succ])
          refine wpAnyH_take (i := 4) (v := .agg (eA a)) rfl ?r04b ?r04c ?r04d (fun _ _ _ h => h) ?r04e s0 ?r04f
          case r04b => kernel_rfl
          case r04c => kernel_rfl
          case r04d => kernel_rfl
          case r04e => exact yields_row (by kernel_rfl) 34 (.tmp 3) rfl g3 rfl 34 (eA a) (0, 0) _ (fun w' h => (HSx.out w' h).1) Try.underlying34 rfl (infoE HA.out)
          (try simp only [Act.put, List.getElem_toArray, List.getElem_cons_succ, List.getElem_cons_zero, List.setIfInBounds_toArray, List.set_cons_zero, List.set_cons_succ])
          refine wpAnyH_take (i := 5) (v := .int .i64 z) rfl (by kernel_rfl) (by kernel_rfl) (by kernel_rfl) (fun _ _ _ h => h) (Or.inl ⟨by kernel_rfl, fun w' h => by first | (go_simp; done) | (go_simp; rfl)⟩) s0 ?_
          (try simp only [Act.put, List.getElem_toArray, List.getElem_cons_succ, List.getElem_cons_zero, List.setIfInBounds_toArray, List.set_cons_zero, List.set_cons_succ])
          refine wpAnyH_take (i := 7) (v := .pointer (some ⟨T, 0, none⟩)) rfl (by kernel_rfl) (by kernel_rfl) (by kernel_rfl) (fun _ _ _ h => h) (Or.inl ⟨by kernel_rfl, fun w' h => by first | (go_simp; done) | (go_simp; rfl)⟩) s0 ?_
          (try simp only [Act.put, List.getElem_toArray, List.getElem_cons_succ, List.getElem_cons_zero, List.setIfInBounds_toArray, List.set_cons_zero, List.set_cons_succ])
          refine wpAnyH_take (i := 8) (v := .pointer (some ⟨T, 0, none⟩)) rfl (by kernel_rfl) (by kernel_rfl) (by kernel_rfl) (fun _ _ _ h => h) (Or.inl ⟨by kernel_rfl, fun w' h => by first | (go_simp; done) | (go_simp; rfl)⟩) s0 ?_
          (try simp only [Act.put, List.getElem_toArray, List.getElem_cons_succ, List.getElem_cons_zero, List.setIfInBounds_toArray, List.set_cons_zero, List.set_cons_succ])
          refine wpAnyH_take (i := 9) (v := .pointer (some ⟨T, 1, none⟩)) rfl (by kernel_rfl) (by kernel_rfl) (by kernel_rfl) (fun _ _ _ h => h) (Or.inl ⟨by kernel_rfl, fun w' h => by first | (go_simp; done) | (go_simp; rfl)⟩) s0 ?_
          (try simp only [Act.put, List.getElem_toArray, List.getElem_cons_succ, List.getElem_cons_zero, List.setIfInBounds_toArray, List.set_cons_zero, List.set_cons_succ])
          refine held_step (i := 6) (by kernel_rfl) rfl (by kernel_rfl) (fun K hK => ?_)
          go_wp2_with (go_at_call 47; refine (cidr_Mask a HA.out z wr.drew).mono ?_; rintro e w5 ⟨rfl, hb⟩; have HD5 := Aside0.mk (fs_below HD.out hb); have s1 : S w5 := HSy.out _ m HD5.out; clear hb)
          refine hK.out _ _ s1 ?_
          clear hK K
          (try simp only [Act.put, List.getElem_toArray, List.getElem_cons_succ, List.getElem_cons_zero, List.setIfInBounds_toArray, List.set_cons_zero, List.set_cons_succ])
          refine held_step (i := 10) (by kernel_rfl) rfl (by kernel_rfl) (fun K hK => ?_)
          go_simp
          refine (table_search A l.length cap G l HOK.out (maskQ a z) HPO.out T 1 90 _ (st + (m : Int)) w5 (rd_of_fs HD5.out HRD.out) HD5.out.tab rfl HG.out (by have := HN.out; omega) (by have := HST.out; omega) (by have := HST.out; have := HML.out; omega) (mono_sorted HOK.out HS.out HPO.out)).mono ?_
          rintro r w6 ⟨i2, b2, m2, rfl, h1, h2, h3⟩
          obtain ⟨rfl, rfl⟩ := found_same h3 HFO.out
          have HD6 := Aside0.mk (fs_ticks HD5.out HN3.out HN4.out HG.out h1)
          have HM2 := Aside0.mk h2
          have s2 : S w6 := HSy.out _ (m + m2) HD6.out
          clear h1 h2 h3
          refine hK.out _ _ s2 ?_
          clear hK K
          (try simp only [Act.put, List.getElem_toArray, List.getElem_cons_succ, List.getElem_cons_zero, List.setIfInBounds_toArray, List.set_cons_zero, List.set_cons_succ])
          refine wpAnyH_take (i := 11) (v := .tuple #[.int .i64 (i2 : Int), .bool false]) rfl (by kernel_rfl) (by kernel_rfl) (by kernel_rfl) (fun _ _ _ h => h) (Or.inl ⟨by kernel_rfl, fun w' h => by first | (go_simp; done) | (go_simp; rfl)⟩) s2 ?_
          (try simp only [Act.put, List.getElem_toArray, List.getElem_cons_succ, List.getElem_cons_zero, List.setIfInBounds_toArray, List.set_cons_zero, List.set_cons_succ])
          refine wpAnyH_take (i := 12) (v := .int .i64 (i2 : Int)) rfl (by kernel_rfl) (by kernel_rfl) (by kernel_rfl) (fun _ _ _ h => h) (Or.inl ⟨by kernel_rfl, fun w' h => by first | (go_simp; done) | (go_simp; rfl)⟩) s2 ?_
          (try simp only [Act.put, List.getElem_toArray, List.getElem_cons_succ, List.getElem_cons_zero, List.setIfInBounds_toArray, List.set_cons_zero, List.set_cons_succ])
          refine wpAnyH_take (i := 13) (v := .bool false) rfl (by kernel_rfl) (by kernel_rfl) (by kernel_rfl) (fun _ _ _ h => h) (Or.inl ⟨by kernel_rfl, fun w' h => by first | (go_simp; done) | (go_simp; rfl)⟩) s2 ?_
          (try simp only [Act.put, List.getElem_toArray, List.getElem_cons_succ, List.getElem_cons_zero, List.setIfInBounds_toArray, List.set_cons_zero, List.set_cons_succ])
          refine wpAnyH_take (i := 14) (v := .int .i64 (i2 : Int)) rfl (by kernel_rfl) (by kernel_rfl) (by kernel_rfl) (fun _ _ _ h => h) (Or.inl ⟨by kernel_rfl, fun w' h => by first | (go_simp; done) | (go_simp; rfl)⟩) s2 ?_
          (try simp only [Act.put, List.getElem_toArray, List.getElem_cons_succ, List.getElem_cons_zero, List.setIfInBounds_toArray, List.set_cons_zero, List.set_cons_succ])
          refine wpAnyH_take (i := 15) (v := .bool false) rfl (by kernel_rfl) (by kernel_rfl) (by kernel_rfl) (fun _ _ _ h => h) (Or.inl ⟨by kernel_rfl, fun w' h => by first | (go_simp; done) | (go_simp; rfl)⟩) s2 ?_
          (try simp only [Act.put, List.getElem_toArray, List.getElem_cons_succ, List.getElem_cons_zero, List.setIfInBounds_toArray, List.set_cons_zero, List.set_cons_succ])
          refine wpAnyH_done (by kernel_rfl) ?_ _
          clear s0 s1 s2
          go_wp2
          go_roundw
          case rel => exact ⟨z - 1, m + m2, i + 1, (by first | rfl | exact congrArg (Value.int .i64) HE4.out), ⟨by have := HI.out.1; omega, by have := HZ.out; omega, by
            have h1 := HI.out.2.2
            have h2 := HM2.out
            rw [Nat.succ_mul]
            omega⟩, HR2, HD6⟩
          case measure =>
            rw [HE4.out]
            show ((z - 1) + 1).toNat < (z + 1).toNat
            have := HZ.out
            omega
        · obtain ⟨x, hx, hxp, _, _, _, hget, _⟩ := found_yes HOK.out HS.out HPO.out HFO.out
          have HR2 := Aside0.mk ((HFI.out.trans (findI_yes HZ.out.1 HBV.out)).trans hget)
          have HXX := Aside0.mk hx
          have HOX := Aside0.mk (HOK.out x (List.mem_of_getElem? hx))
          have hidx := fun w => HRD.out.idx w x0 (by rw [← HRD.out.len]; exact (List.getElem?_eq_some_iff.1 hx).1)
          clear hx hxp hget
          go_wp2
          obtain ⟨S, hS⟩ : ∃ S : World → Prop, S = fun w' => ∃ m' : Nat, Fs w T g3 g4 G (.slice A l.length cap) st a l w' m' := ⟨_, rfl⟩
          have HSx := Aside0.mk (show ∀ x : World, S x → x.heap[g3]? = some (.cells (eA a) 34 (0, 0)) ∧ x.cell? ⟨T, 0, none⟩ = some (.slice A l.length cap) by
            intro b h
            rw [hS] at h
            obtain ⟨m', h⟩ := h
            exact ⟨h.tgt, blk_cell h.tab 0⟩)
          have HSy := Aside0.mk (show ∀ (x : World) (m' : Nat), Fs w T g3 g4 G (.slice A l.length cap) st a l x m' → S x by
            intro b m' h
            rw [hS]
            exact ⟨m', h⟩)
          clear hS
          have HD := Aside0.mk (fs_below HST2.out (show Below wr.heap.size wr wr.drew from bel_later (Below.refl _ _)))
          have s0 : S wr.drew := HSy.out _ m HD.out
          refine wp_region_held_drew (S := S) (by kernel_rfl) s0 (fun _ => ?_)
          refine wpAnyH_take (i := 0) (v := .pointer (some ⟨T, 0, none⟩)) rfl (by kernel_rfl) (by kernel_rfl) (by kernel_rfl) (fun _ _ _ h => h) (Or.inl ⟨by kernel_rfl, fun w' h => by first | (go_simp; done) | (go_simp; rfl)⟩) s0 ?_
          (try simp only [Act.put, List.getElem_toArray, List.getElem_cons_succ, List.getElem_cons_zero, List.setIfInBounds_toArray, List.set_cons_zero, List.set_cons_succ])
          refine wpAnyH_take (i := 1) (v := .pointer (some ⟨T, 0, none⟩)) rfl (by kernel_rfl) (by kernel_rfl) (by kernel_rfl) (fun _ _ _ h => h) (Or.inl ⟨by kernel_rfl, fun w' h => by first | (go_simp; done) | (go_simp; rfl)⟩) s0 ?_
          (try simp only [Act.put, List.getElem_toArray, List.getElem_cons_succ, List.getElem_cons_zero, List.setIfInBounds_toArray, List.set_cons_zero, List.set_cons_succ])
          refine wpAnyH_take (i := 2) (v := .pointer (some ⟨T, 0, none⟩)) rfl (by kernel_rfl) (by kernel_rfl) (by kernel_rfl) (fun _ _ _ h => h) (Or.inl ⟨by kernel_rfl, fun w' h => by first | (go_simp; done) | (go_simp; rfl)⟩) s0 ?_
          (try simp only [Act.put, List.getElem_toArray, List.getElem_cons_succ, List.getElem_cons_zero, List.setIfInBounds_toArray, List.set_cons_zero, List.set_cons_succ])
          refine wpAnyH_take (i := 3) (v := .slice A l.length cap) rfl (by kernel_rfl) (by kernel_rfl) (by kernel_rfl) (fun _ _ _ h => h) (Or.inl ⟨by kernel_rfl, fun w' h => by have hf := (HSx.out w' h).2; first | (go_simp; done) | (go_simp; rfl)⟩) s0 ?_
          (try simp only [Act.put, List.getElem_toArray, List.getElem_cons_succ, List.getElem_cons_zero, List.setIfInBounds_toArray, List.set_cons_zero, List.set_cons_succ])
          refine wpAnyH_take (i := 4) (v := .agg (eA a)) rfl ?r14b ?r14c ?r14d (fun _ _ _ h => h) ?r14e s0 ?r14f
          case r14b => kernel_rfl
          case r14c => kernel_rfl
          case r14d => kernel_rfl
          case r14e => exact yields_row (by kernel_rfl) 34 (.tmp 3) rfl g3 rfl 34 (eA a) (0, 0) _ (fun w' h => (HSx.out w' h).1) Try.underlying34 rfl (infoE HA.out)
          (try simp only [Act.put, List.getElem_toArray, List.getElem_cons_succ, List.getElem_cons_zero, List.setIfInBounds_toArray, List.set_cons_zero, List.set_cons_succ])
          refine wpAnyH_take (i := 5) (v := .int .i64 z) rfl (by kernel_rfl) (by kernel_rfl) (by kernel_rfl) (fun _ _ _ h => h) (Or.inl ⟨by kernel_rfl, fun w' h => by first | (go_simp; done) | (go_simp; rfl)⟩) s0 ?_
          (try simp only [Act.put, List.getElem_toArray, List.getElem_cons_succ, List.getElem_cons_zero, List.setIfInBounds_toArray, List.set_cons_zero, List.set_cons_succ])
          refine wpAnyH_take (i := 7) (v := .pointer (some ⟨T, 0, none⟩)) rfl (by kernel_rfl) (by kernel_rfl) (by kernel_rfl) (fun _ _ _ h => h) (Or.inl ⟨by kernel_rfl, fun w' h => by first | (go_simp; done) | (go_simp; rfl)⟩) s0 ?_
          (try simp only [Act.put, List.getElem_toArray, List.getElem_cons_succ, List.getElem_cons_zero, List.setIfInBounds_toArray, List.set_cons_zero, List.set_cons_succ])
          refine wpAnyH_take (i := 8) (v := .pointer (some ⟨T, 0, none⟩)) rfl (by kernel_rfl) (by kernel_rfl) (by kernel_rfl) (fun _ _ _ h => h) (Or.inl ⟨by kernel_rfl, fun w' h => by first | (go_simp; done) | (go_simp; rfl)⟩) s0 ?_
          (try simp only [Act.put, List.getElem_toArray, List.getElem_cons_succ, List.getElem_cons_zero, List.setIfInBounds_toArray, List.set_cons_zero, List.set_cons_succ])
          refine wpAnyH_take (i := 9) (v := .pointer (some ⟨T, 1, none⟩)) rfl (by kernel_rfl) (by kernel_rfl) (by kernel_rfl) (fun _ _ _ h => h) (Or.inl ⟨by kernel_rfl, fun w' h => by first | (go_simp; done) | (go_simp; rfl)⟩) s0 ?_
          (try simp only [Act.put, List.getElem_toArray, List.getElem_cons_succ, List.getElem_cons_zero, List.setIfInBounds_toArray, List.set_cons_zero, List.set_cons_succ])
          refine held_step (i := 6) (by kernel_rfl) rfl (by kernel_rfl) (fun K hK => ?_)
          go_wp2_with (go_at_call 47; refine (cidr_Mask a HA.out z wr.drew).mono ?_; rintro e w5 ⟨rfl, hb⟩; have HD5 := Aside0.mk (fs_below HD.out hb); have s1 : S w5 := HSy.out _ m HD5.out; clear hb)
          refine hK.out _ _ s1 ?_
          clear hK K
          (try simp only [Act.put, List.getElem_toArray, List.getElem_cons_succ, List.getElem_cons_zero, List.setIfInBounds_toArray, List.set_cons_zero, List.set_cons_succ])
          refine held_step (i := 10) (by kernel_rfl) rfl (by kernel_rfl) (fun K hK => ?_)
          go_simp
          refine (table_search A l.length cap G l HOK.out (maskQ a z) HPO.out T 1 90 _ (st + (m : Int)) w5 (rd_of_fs HD5.out HRD.out) HD5.out.tab rfl HG.out (by have := HN.out; omega) (by have := HST.out; omega) (by have := HST.out; have := HML.out; omega) (mono_sorted HOK.out HS.out HPO.out)).mono ?_
          rintro r w6 ⟨i2, b2, m2, rfl, h1, h2, h3⟩
          obtain ⟨rfl, rfl⟩ := found_same h3 HFO.out
          have HD6 := Aside0.mk (fs_ticks HD5.out HN3.out HN4.out HG.out h1)
          have HM2 := Aside0.mk h2
          have s2 : S w6 := HSy.out _ (m + m2) HD6.out
          clear h1 h2 h3
          refine hK.out _ _ s2 ?_
          clear hK K
          (try simp only [Act.put, List.getElem_toArray, List.getElem_cons_succ, List.getElem_cons_zero, List.setIfInBounds_toArray, List.set_cons_zero, List.set_cons_succ])
          refine wpAnyH_take (i := 11) (v := .tuple #[.int .i64 (i2 : Int), .bool true]) rfl (by kernel_rfl) (by kernel_rfl) (by kernel_rfl) (fun _ _ _ h => h) (Or.inl ⟨by kernel_rfl, fun w' h => by first | (go_simp; done) | (go_simp; rfl)⟩) s2 ?_
          (try simp only [Act.put, List.getElem_toArray, List.getElem_cons_succ, List.getElem_cons_zero, List.setIfInBounds_toArray, List.set_cons_zero, List.set_cons_succ])
          refine wpAnyH_take (i := 12) (v := .int .i64 (i2 : Int)) rfl (by kernel_rfl) (by kernel_rfl) (by kernel_rfl) (fun _ _ _ h => h) (Or.inl ⟨by kernel_rfl, fun w' h => by first | (go_simp; done) | (go_simp; rfl)⟩) s2 ?_
          (try simp only [Act.put, List.getElem_toArray, List.getElem_cons_succ, List.getElem_cons_zero, List.setIfInBounds_toArray, List.set_cons_zero, List.set_cons_succ])
          refine wpAnyH_take (i := 13) (v := .bool true) rfl (by kernel_rfl) (by kernel_rfl) (by kernel_rfl) (fun _ _ _ h => h) (Or.inl ⟨by kernel_rfl, fun w' h => by first | (go_simp; done) | (go_simp; rfl)⟩) s2 ?_
          (try simp only [Act.put, List.getElem_toArray, List.getElem_cons_succ, List.getElem_cons_zero, List.setIfInBounds_toArray, List.set_cons_zero, List.set_cons_succ])
          refine wpAnyH_take (i := 14) (v := .int .i64 (i2 : Int)) rfl (by kernel_rfl) (by kernel_rfl) (by kernel_rfl) (fun _ _ _ h => h) (Or.inl ⟨by kernel_rfl, fun w' h => by first | (go_simp; done) | (go_simp; rfl)⟩) s2 ?_
          (try simp only [Act.put, List.getElem_toArray, List.getElem_cons_succ, List.getElem_cons_zero, List.setIfInBounds_toArray, List.set_cons_zero, List.set_cons_succ])
          refine wpAnyH_take (i := 15) (v := .bool true) rfl (by kernel_rfl) (by kernel_rfl) (by kernel_rfl) (fun _ _ _ h => h) (Or.inl ⟨by kernel_rfl, fun w' h => by first | (go_simp; done) | (go_simp; rfl)⟩) s2 ?_
          (try simp only [Act.put, List.getElem_toArray, List.getElem_cons_succ, List.getElem_cons_zero, List.setIfInBounds_toArray, List.set_cons_zero, List.set_cons_succ])
          refine wpAnyH_done (by kernel_rfl) ?_ _
          clear s0 s1 s2
          have h0 : w6.cell? ⟨T, 0, none⟩ = some (.slice A l.length cap) := blk_cell HD6.out.tab 0
          go_wp2_with (first
            | ((with_reducible refine gate_dst (N := 40) rfl ?_); refine wpList_load_mid rfl 42 (.tmp 39) rfl G (i2 * 19) rfl (lE x) _ (HD6.out.at_ i2 x HXX.out) Try.underlying42 rfl (infoEE HOX.out) ?_)
            | ((with_reducible refine gate_store (t := 42) (p := 4) rfl ?_); refine wpList_store_row rfl 42 (.tmp 4) (.tmp 40) rfl g4 (eE x) rfl rfl 42 (eE noE) HD6.out.out (infoEE HOX.out) ((eE_size ok_noE).trans (eE_size HOX.out).symm) (eE_one _) ?_; have HY7 := Aside0.mk (row_new (cells := eE x) HD6.out.out); have HB7 := Aside0.mk (ticks_row HD6.out.tck HG4.out HN4.out (eE x)); generalize w6.setRow g4 (eE x) = w7 at HY7 HB7 ⊢))
          refine bodyPost_ret (results_cell_tmp rfl _ _ g4 42 (eE x) (0, 0) _ rfl HY7.out Try.underlying42 rfl (infoEE HOX.out)) rfl ?_
          exact ⟨m + m2, by rw [HR2.out]; rfl, find_bound HI.out.1 HZ.out.1 HI.out.2.2 HM2.out, HB7.out⟩
      · have c1 : decide (0 ≤ z) = false := decide_eq_false hz0
        have HR2 := Aside0.mk (HFI.out.trans (show findI l a z = none from if_pos (by omega)))
        have HI2 := Aside0.mk (show i ≤ 129 by have := HI.out; have := bitsOf_le a.fam; omega)
        clear hz0
        go_wp2_with (first
          | ((with_reducible refine gate_store (t := 42) (p := 4) rfl ?_); refine wpList_store_row rfl 42 (.tmp 4) (.tmp 41) rfl g4 (eE noE) rfl rfl 42 (eE noE) HST2.out.out (infoEE ok_noE) rfl (eE_one _) ?_; have HY7 := Aside0.mk (row_new (cells := eE noE) HST2.out.out); have HB7 := Aside0.mk (ticks_row HST2.out.tck HG4.out HN4.out (eE noE)); generalize wr.setRow g4 (eE noE) = w7 at HY7 HB7 ⊢))
        refine bodyPost_ret (results_cell_tmp rfl _ _ g4 42 (eE noE) (0, 0) _ rfl HY7.out Try.underlying42 rfl (infoEE ok_noE)) rfl ?_
        exact ⟨m, by rw [HR2.out]; rfl, Nat.le_trans HI.out.2.2 (Nat.mul_le_mul_right _ HI2.out), HB7.out⟩
end Go.Proofs.Ythjhbhgfckaklaa.P
