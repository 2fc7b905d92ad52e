/-
  A map of entries.
-/
import Derived.Test.YtjilnigmbnmlfaaGreatDoorM13
import Derived.Test.YtjilnigmbnmlfaaGreatDoorM12
namespace Go.Proofs.YtjilnigmbnmlfaaGreatDoor.P
open Go.RowKit Go.Deep Go.Proofs.YtjilnigmbnmlfaaGreatDoorW.PrintWords Go.Proofs.YtjilnigmbnmlfaaGreatDoorW.PrintLast Go.Proofs.YtjilnigmbnmlfaaGreatDoorW.PrintMore
set_option linter.unusedVariables false
set_option linter.unusedSimpArgs false
section
variable {H : Type} {enc : TypeId × Value → H} {W : World} {base : Nat} {spare : Nat → Bool} {held : Bool}
theorem opens_en (n : Nat) (cs : List Value) (x : DataW H × List MemPlace) (h : DataW.trod enc Tryz.prog W base spare held n 46 cs = some x) : ∃ e : En, cs = lE e ∧ e.p.a.ok := by
  obtain ⟨xs, m, _, _, hl, hlen, hf⟩ := DataW.trod_struct Tryz.underlying46 h
  have hl19 : cs.length = 19 := hl.trans (by kernel_rfl)
  have hI : Tryz.prog.cellsOf 3 = 1 := by kernel_rfl
  have hB : Tryz.prog.cellsOf 40 = 18 := by kernel_rfl
  have hxl : xs.length = 2 := hlen
  obtain ⟨y0, hy0⟩ : ∃ y, xs[0]? = some y := ⟨xs[0]'(by omega), List.getElem?_eq_getElem _⟩
  obtain ⟨y1, hy1⟩ : ∃ y, xs[1]? = some y := ⟨xs[1]'(by omega), List.getElem?_eq_getElem _⟩
  have h0 : DataW.trod enc Tryz.prog W base spare held m 40 ((cs.drop 0).take (Tryz.prog.cellsOf 40)) = some y0 := (hf 0 _ rfl).trans hy0
  have h1 : DataW.trod enc Tryz.prog W base spare held m 3 ((cs.drop 18).take (Tryz.prog.cellsOf 3)) = some y1 := (hf 1 _ rfl).trans hy1
  rw [hI] at h1
  rw [hB] at h0
  obtain ⟨v, hv, _, _⟩ := DataW.trod_int Tryz.underlying3 h1
  obtain ⟨p, hp, hok⟩ := opens_pf _ _ _ h0
  refine ⟨⟨p, v⟩, ?_, hok⟩
  rw [split3 cs 18 1, hv, show cs.take 18 = lP p from hp, List.drop_of_length_le (by omega), List.append_nil]
  rfl
theorem idx_et (g o n cap i : Nat) (w : World) (hi : i < n) : (Instr.indexAt 38 (.slice (some ⟨g, o, none⟩) n cap) (.int .i64 (i : Int))).run Tryz.prog w = .ok (.pointer (some ⟨g, o + i * 19, none⟩)) w := by
  have h0 : (0 : Int) ≤ (i : Int) := Int.natCast_nonneg i
  have h1 : (i : Int) < (n : Int) := by omega
  go_simp
/-- A slice that reads as these entries. -/
structure RdT (w : World) (A : Option Addr) (n cap : Nat) (L : List En) : Prop where
  len : L.length = n
  form : 0 < n → ∃ a, A = some a
  le : n ≤ cap
  at_ : ∀ (i : Nat) (e : En), L[i]? = some e → ∃ G o, (∀ (w : World) (m c : Nat), i < m → (Instr.indexAt 38 (.slice A m c) (.int .i64 (i : Int))).run Tryz.prog w = .ok (.pointer (some ⟨G, o, none⟩)) w) ∧ w.rangeAt G o (lE e) ∧ e.p.a.ok
theorem rdT_take {w : World} {A : Option Addr} {n cap : Nat} {L : List En} (h : RdT w A n cap L) (k : Nat) (hk : k ≤ n) : RdT w A k cap (L.take k) :=
  ⟨by rw [List.length_take, h.len]; omega, fun h0 => h.form (by omega), Nat.le_trans hk h.le, fun i e he => h.at_ i e (by rw [List.getElem?_take] at he; split at he; exact he; cases he)⟩
theorem opens_ens (n : Nat) (cs : List Value) (x : DataW H × List MemPlace) (h : DataW.trod enc Tryz.prog W base spare held n 38 cs = some x) : ∃ (A : Option Addr) (m cap : Nat) (L : List En), cs = [.slice A m cap] ∧ RdT W A m cap L := by
  rcases open_slice Tryz.underlying38 h with ⟨rfl, _⟩ | ⟨a, len, cap, m, n', D, Pl, rfl, hb, hl, hm, hmm, _, hel⟩
  · exact ⟨none, 0, 0, [], rfl, rfl, fun h => absurd h (by decide), Nat.le_refl _, fun i d hd => by simp at hd⟩
  · have hS : Tryz.prog.cellsOf 46 = 19 := by kernel_rfl
    rw [hS] at hel
    have hlm : len ≤ m := by rw [hmm]; split <;> omega
    obtain ⟨L, h1, h2⟩ := row_ext (α := En) (len := len) (Q := fun i d => ∃ G o, (∀ (w : World) (m c : Nat), i < m → (Instr.indexAt 38 (.slice (some a) m c) (.int .i64 (i : Int))).run Tryz.prog w = .ok (.pointer (some ⟨G, o, none⟩)) w) ∧ W.rangeAt G o (lE d) ∧ d.p.a.ok) (fun i hi => by
      obtain ⟨cs', hcs, htr⟩ := hel i (by omega)
      obtain ⟨d, rfl, hok⟩ := opens_en _ _ _ htr
      obtain ⟨cs0, hcs0, _⟩ := hel 0 (by omega)
      have hsp := no_spot hcs0 (by decide)
      have hsp' : a.spot = none := by rw [Nat.zero_mul] at hsp; unfold Addr.add at hsp; simpa using hsp
      obtain ⟨g, o, sp⟩ := a
      cases hsp'
      rw [Addr.add_mid] at hcs
      exact ⟨d, g, o + i * 19, fun w m c hm => idx_et g o m c i w hm, range_cells hcs, hok⟩)
    exact ⟨some a, len, cap, L, rfl, h1, fun _ => ⟨a, rfl⟩, by omega, h2⟩
end
theorem map_Add (M T base : Nat) (st : Int) (sv : Value) (l l2 : List En) (p : Pf) (hp : p.a.ok) (v er : Int) (her : er = erS p v) (hl2 : l2 = addS l p v) (w : World) (hm : Mp w M T base st sv l) (hs : Sorted l) (hn : l.length ≤ 1000) (hb0 : base ≤ w.heap.size) :
    Calls Tryz.prog 14 #[.pointer (some ⟨M, 0, none⟩), .agg (eP p), .int .i64 v] w fun e w' => e = .returned (.int .i64 er) ∧ Aside0 (∃ sv', Mp w' M T base st sv' l2) ∧ Aside0 (Chg T base w w') := by
  cases hv : inS v with
  | false =>
    have e1 : er = 1 := by rw [her]; unfold erS; rw [if_neg (by rw [hv]; decide)]
    have e2 : l2 = l := by rw [hl2]; unfold addS; rw [if_neg (by rw [hv]; decide)]
    subst e1 e2
    exact (map_Add_no M p v hv w).mono fun e w' ⟨h1, h2⟩ => ⟨h1, ⟨sv, mp_below hm h2⟩, ⟨chg_below h2⟩⟩
  | true => exact map_Add_yes M T base st sv l l2 p hp v er hv (by rw [her]; unfold erS; rw [if_pos hv]) (by rw [hl2]; unfold addS; rw [if_pos hv]) w hm hs hn hb0
def newS (L : List En) : List En := L.foldl (fun l e => addS l e.p e.v) []
theorem newS_snoc (L : List En) (e : En) : newS (L ++ [e]) = addS (newS L) e.p e.v := by unfold newS; rw [List.foldl_append]; rfl
theorem fine_addS {l : List En} {n : Nat} (h : Fine l n) {p : Pf} (hp : p.a.ok) (v : Int) : Fine (addS l p v) (n + 1) := by
  unfold addS
  split
  · exact fine_set h hp v
  · exact ⟨h.ok, h.sorted, h.may, Nat.le_succ_of_le h.len⟩
theorem fine_newS : ∀ (L : List En), (∀ e ∈ L, e.p.a.ok) → Fine (newS L) L.length := by
  have h : ∀ (L : List En) (l : List En) (n : Nat), (∀ e ∈ L, e.p.a.ok) → Fine l n → Fine (L.foldl (fun l e => addS l e.p e.v) l) (n + L.length) := by
    intro L
    induction L with
    | nil => exact fun l n _ h => h
    | cons d L ih =>
      intro l n hL h
      have := ih (addS l d.p d.v) (n + 1) (fun x hx => hL x (List.mem_cons_of_mem _ hx)) (fine_addS h (hL d (List.mem_cons_self ..)) d.v)
      rw [show n + 1 + L.length = n + (d :: L).length by rw [List.length_cons]; omega] at this
      exact this
  intro L hL
  have := h L [] 0 hL fine_nil
  rw [Nat.zero_add] at this
  exact this
set_option maxHeartbeats 8000000 in
set_option maxRecDepth 100000 in
theorem space_New (A : Option Addr) (n cap : Nat) (L : List En) (w : World) (hrd : RdT w A n cap L) (hn : n ≤ 900) : Calls Tryz.prog 12 #[.slice A n cap] w fun r w' => ∃ M sv, r = .returned (.pointer (some ⟨M, 0, none⟩)) ∧ w.heap.size ≤ M ∧ Mp w' M w.heap.size w.heap.size 0 sv (newS L) ∧ Below w.heap.size w w' := by
  have HB := Aside0.mk (Below.refl w.heap.size w)
  have HRD := Aside0.mk hrd
  have HN := Aside0.mk hn
  have HALL := Aside0.mk (show ∀ e ∈ L, e.p.a.ok from fun x hx => by
    obtain ⟨i, hi⟩ := List.getElem?_of_mem hx
    obtain ⟨_, _, _, _, h⟩ := hrd.at_ i x hi
    exact h)
  clear hrd hn
  go_enter Tryz.func12, Tryz.ntmps12
  go_wp2_with (first
    | (go_at_call 27; refine (new_none _).mono ?_; rintro r w1 ⟨rfl, ⟨sv, ht⟩, hb⟩; have HT := Aside0.mk ht; replace HB := Aside0.mk (below_step HB.out hb); clear ht hb)
    | ((with_reducible refine gate_dst (N := 8) rfl ?_); refine box_event ?hg (N := 8) ?hd (cs := #[.pointer (some ⟨w.heap.size, 0, none⟩)]) (t := 35) ?hr ?_; (case hd => rfl); (case hg => rfl); (case hr => first | (go_simp; done) | (go_simp; rfl)); intro M hg w2 hbox hb; have HM0 := Aside0.mk hbox; have HZ := Aside0.mk (show w.heap.size ≤ M by rw [hg]; exact HB.out.size); replace HT := Aside0.mk (tb_below HT.out hb); replace HB := Aside0.mk (below_step HB.out hb); clear hb hg hbox))
  have HM := Aside0.mk (show ∃ sv, Mp w2 M w.heap.size w.heap.size 0 sv (newS (L.take 0)) from ⟨sv, HM0.out, HT.out⟩)
  clear HM0 HT
  go_loopw [11] (fun v11 wr => ∃ i : Nat, v11 = .int .i64 (i : Int) ∧ Aside0 (i ≤ n) ∧ Aside0 (∃ sv, Mp wr M w.heap.size w.heap.size 0 sv (newS (L.take i))) ∧ Aside0 (Below w.heap.size w wr)) (fun v11 _ => n - (intOf v11).toNat)
  case atStart => exact ⟨0, rfl, ⟨Nat.zero_le _⟩, HM, HB⟩
  case round =>
    clear HM HB
    obtain ⟨i, rfl, HI, HM, HB⟩ := hrel
    have HLN := Aside0.mk HRD.out.len
    by_cases hi : i < n
    · have e0 : decide ((i : Int) < (n : Int)) = true := decide_eq_true (by omega)
      have e0n : decide (i < n) = true := decide_eq_true hi
      obtain ⟨e, he⟩ : ∃ e, L[i]? = some e := ⟨L[i]'(by have := HLN.out; omega), List.getElem?_eq_getElem _⟩
      obtain ⟨G, o, hidx, hrg, heok⟩ := HRD.out.at_ i e he
      have hix := fun w => hidx w n cap hi
      have HRG := Aside0.mk (range_below hrg HB.out)
      have HEO := Aside0.mk heok
      obtain ⟨svi, hmi⟩ := HM.out
      have HMI := Aside0.mk hmi
      have HFI := Aside0.mk (fine_newS (L.take i) (fun x hx => HALL.out x (List.mem_of_mem_take hx)))
      have hlt : (L.take i).length ≤ i := by rw [List.length_take]; exact Nat.min_le_left _ _
      have HLI := Aside0.mk (show (newS (L.take i)).length ≤ 1000 by have h1 := HFI.out.len; have := HN.out; omega)
      clear hlt
      have HSN := Aside0.mk (show newS (L.take (i + 1)) = addS (newS (L.take i)) e.p e.v by rw [List.take_add_one, he]; exact newS_snoc _ e)
      have E1 := Aside0.mk (wrap_up6 i (by have := HN.out; omega))
      clear he hidx hrg heok hmi HM
      go_wp2_with (first
        | ((with_reducible refine gate_dst (N := 14) rfl ?_); refine wpList_load_mid rfl 46 (.tmp 13) rfl G o rfl (lE e) _ HRG.out Tryz.underlying46 rfl (infoEn_len HEO.out) ?_)
        | ((with_reducible refine gate_dst (N := 5) rfl ?_); refine box_event ?hg (N := 5) ?hd (cs := eE noE) (t := 46) ?hr ?_; (case hd => rfl); (case hg => rfl); (case hr => first | (go_simp; done) | (go_simp; rfl)); intro k5 hg y2 hbox hb; have H5 := Aside0.mk hbox; have HG5 := Aside0.mk (show w.heap.size ≤ k5 by rw [hg]; exact HB.out.size); have HNM := Aside0.mk (show M ≠ k5 ∧ k5 ≠ w.heap.size by have h1 := (Array.getElem?_eq_some_iff.1 HMI.out.blk).1; have h2 := (Array.getElem?_eq_some_iff.1 HMI.out.tb.blk).1; omega); have HF5 := Aside0.mk (own_fresh HMI.out.tb.row (Nat.le_of_eq hg.symm)); replace HMI := Aside0.mk (mp_below HMI.out hb); replace HB := Aside0.mk (below_step HB.out hb); clear hb hg hbox)
        | ((with_reducible refine gate_store (t := 46) (p := 5) rfl ?_); refine wpList_store_row rfl 46 (.tmp 5) (.tmp 14) rfl k5 (eE e) rfl rfl 46 (eE noE) H5.out (infoEE HEO.out) ((eE_size ok_noE).trans (eE_size HEO.out).symm) (eE_one _) ?_; replace H5 := Aside0.mk (row_new (cells := eE e) H5.out); replace HMI := Aside0.mk (mp_row HMI.out HNM.out.1 HNM.out.2 HF5.out (eE e)); replace HB := Aside0.mk (below_row HB.out HG5.out (eE e)); generalize y2.setRow k5 (eE e) = y3 at H5 HMI HB ⊢; have cv := val_cell HEO.out H5.out)
        | ((with_reducible refine gate_dst (N := 17) rfl ?_); refine wpList_load_mid rfl 40 (.tmp 16) rfl k5 0 rfl (lP e.p) _ (range_pfx H5.out) Tryz.underlying40 rfl (infoPf_len HEO.out) ?_)
        | (go_at_call 14; refine (map_Add M w.heap.size w.heap.size 0 svi _ _ e.p HEO.out e.v (erS e.p e.v) rfl HSN.out _ HMI.out HFI.out.sorted HLI.out HB.out.size).mono ?_; rintro r y4 ⟨rfl, HM2, HCH⟩; have HB2 := Aside0.mk (HB.out.trans (chg_base HCH.out (Nat.le_refl _) HB.out.size))))
      go_roundw
      case rel => exact ⟨i + 1, congrArg (Value.int .i64) E1.out, ⟨by omega⟩, HM2, HB2⟩
      case measure => exact measure_up n i _ (by first | rfl | exact E1.out | omega) (by omega)
    · have hin : i = n := by have := HI.out; omega
      subst hin
      have e0 : decide ((i : Int) < (i : Int)) = false := decide_eq_false (by omega)
      obtain ⟨sv2, hm2⟩ := HM.out
      rw [show L.take i = L from List.take_of_length_le (Nat.le_of_eq HLN.out)] at hm2
      go_wp2
      go_ret
      first | exact ⟨M, sv2, rfl, HZ.out, hm2, HB.out⟩ | exact ⟨M, rfl, HZ.out, ⟨sv2, hm2⟩, HB.out⟩
end Go.Proofs.YtjilnigmbnmlfaaGreatDoor.P
