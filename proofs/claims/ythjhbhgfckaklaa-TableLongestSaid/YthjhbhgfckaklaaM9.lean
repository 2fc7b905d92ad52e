/-
  Texts of the proof, put together.
-/
import Derived.Test.YthjhbhgfckaklaaM8
import Derived.Laws.AppendOwnNone
section
namespace Go.Proofs.Ythjhbhgfckaklaa.P
open Go.RowKit Go.Proofs.YthjhbhgfckaklaaW.PrintWords Go.Proofs.YthjhbhgfckaklaaW.PrintLast Go.Proofs.YthjhbhgfckaklaaW.PrintMore
set_option linter.unusedVariables false
set_option linter.unusedSimpArgs false
theorem below_grown {B : Nat} {a w w' : World} {o : Option Nat} (h : Below B a w) (hg : w.grownBy w' o) (ho : ∀ k, o = some k → B ≤ k) (hB : B ≤ a.heap.size) : Below B a w' :=
  ⟨hg.os.trans h.os, hg.tape.trans h.tape, hg.output.trans h.output, Nat.le_trans h.size hg.size, fun k hk => (hg.block k (by have := h.size; omega) (fun e => by have := ho k e.symm; omega)).trans (h.block k hk)⟩
theorem own_below {w w' : World} {base n : Nat} {te : TypeId} {v : Value} {xs : List Value} (h : w.ownsRow base te 19 v n xs) (hb : Below w.heap.size w w') : w'.ownsRow base te 19 v n xs :=
  h.kept (row := none) ⟨hb.os, hb.tape, hb.output, hb.size, fun k hk _ => hb.block k hk⟩ (by cases v.ownBlock <;> simp)
theorem info_Er : (Try.prog.info? 63).map (fun i => (i.zero, i.size, i.bytes)) = some (some (.agg (eE noE)), 19, 40) := by kernel_rfl
theorem infoEr6 {e : En} (h : e.p.a.ok) : (Try.prog.info? 63).map (·.size) = some (eE e).size := by rw [eE_size h]; exact infoEr
theorem wp_lit_er {ops : Array Oper} {rest : List Oper} {o : Oper} {a : Act} {w : World} {Q : Exit → Act → World → Prop} (hgd : o.guard = none) (x : Operand) (ho : o.op = .buildSlice 51 1 #[(0, x)]) (e : En) (he : e.p.a.ok) (hx : a.eval x = .agg (eE e))
    (h : ∀ (vb : Nat) (w' : World), w'.heap[vb]? = some (.cells (eE e) 63 (0, 0)) → Below w.heap.size w w' → wpList Try.prog ops Q rest (a.put o.dst (.slice (some ⟨vb, 0, none⟩) 1 1)) w') : wpList Try.prog ops Q (o :: rest) a w := by
  obtain ⟨i0, hi, hz0, hz1, hz2⟩ := info_parts info_Er
  refine wpList_buildSlice hgd 51 63 1 _ ho (eE e) i0 (.agg (eE noE)) Try.underlying51 hi hz0 (by rw [hz1]; decide) (by rw [hz1]; decide) ?_ (h _ _ (heap_alloc_new w _) (below_alloc (Below.refl _ _) _))
  rw [hz1]
  simp only [List.map_toArray, List.map_cons, List.map_nil, hx]
  exact fill_en he
theorem drop_step_no {l : List En} {p : Pf} {i : Nat} {e : En} (he : l[i]? = some e) (hd : e.p = p) : dropE (l.take (i + 1)) p = dropE (l.take i) p := by
  unfold dropE
  rw [List.take_add_one, he, List.filter_append]
  simp [hd]
theorem drop_step_yes {l : List En} {p : Pf} {i : Nat} {e : En} (he : l[i]? = some e) (hd : ¬ e.p = p) : dropE (l.take (i + 1)) p = dropE (l.take i) p ++ [e] := by
  unfold dropE
  rw [List.take_add_one, he, List.filter_append]
  simp [hd]
theorem drop_less (l : List En) (p : Pf) : decide ((dropE l p).length < l.length) = hasE l p := by
  unfold dropE hasE
  rw [Bool.eq_iff_iff, decide_eq_true_eq, List.any_eq_true]
  constructor
  · intro h
    by_cases hn : ∀ e ∈ l, (!decide (e.p = p)) = true
    · rw [List.filter_eq_self.2 hn] at h
      exact absurd h (Nat.lt_irrefl _)
    · simp only [Classical.not_forall] at hn
      obtain ⟨e, he, h2⟩ := hn
      exact ⟨e, he, by simpa using h2⟩
  · rintro ⟨e, he, h2⟩
    have h3 : e ∉ l.filter (fun e => !decide (e.p = p)) := fun h4 => by
      have := (List.mem_filter.1 h4).2
      rw [h2] at this
      cases this
    have h4 := List.length_filter_le (fun e : En => !decide (e.p = p)) l
    rcases Nat.lt_or_ge (l.filter (fun e => !decide (e.p = p))).length l.length with h5 | h5
    · exact h5
    · have h6 : (l.filter (fun e => !decide (e.p = p))) = l := List.filter_sublist.eq_of_length (Nat.le_antisymm h4 h5)
      rw [h6] at h3
      exact absurd he h3
theorem drop_room {l : List En} {p : Pf} {i n : Nat} (hl : okE l) (hi : i ≤ n) (hln : l.length = n) (hn : n ≤ 1000) : (dropE (l.take i) p).length + 1 ≤ maxLen ∧ ((dropE (l.take i) p).length + 1) * 40 ≤ 140737488355328 := by
  have h1 : (dropE (l.take i) p).length ≤ 1000 := by
    refine Nat.le_trans (List.length_filter_le _ _) ?_
    rw [List.length_take]
    omega
  constructor
  · simp only [maxLen]; omega
  · omega
theorem er_ne {w : World} {base n k : Nat} {v : Value} {xs : List Value} {o : Obj} {te : TypeId} (h : w.ownsRow base te 19 v n xs) (ho : w.heap[k]? = some o) (hk : ∀ cs fr, o ≠ .cells cs te fr) : some k ≠ v.ownBlock := by
  rcases h.2 with ⟨rfl, _⟩ | ⟨g, cap, cur, rfl, hb, hg, _⟩
  · intro e; cases e
  · intro e
    have e' : k = g := Option.some.inj e
    subst e'
    rw [hg] at ho
    cases ho
    exact hk _ _ rfl
set_option maxHeartbeats 8000000 in
set_option maxRecDepth 100000 in
theorem ref06_Drop (A : Option Addr) (n cap G : Nat) (l : List En) (hl : okE l) (p : Pf) (hp : p.a.ok) (w : World) (hrd : Rd w 51 A n cap G l) (hn : n ≤ 1000) :
    Calls Try.prog 53 #[.slice A n cap, .agg (eP p)] w fun r w' => ∃ v', r = .returned (.tuple #[v', .bool (hasE l p)]) ∧ w'.ownsRow w.heap.size 63 19 v' (dropE l p).length (flE (dropE l p)) ∧ Below w.heap.size w w' := by
  have HB := Aside0.mk (Below.refl w.heap.size w)
  have HP := Aside0.mk hp
  have HL := Aside0.mk hl
  have HRD := Aside0.mk hrd
  have HN := Aside0.mk hn
  obtain ⟨i0, hi0, hz0, hz1, hz2⟩ := info_parts info_Er
  clear hp hl hrd hn
  go_enter Try.func53, Try.ntmps53
  go_wp2_with (first
    | ((with_reducible refine gate_dst (N := 3) rfl ?_); refine box_event ?hg (N := 3) ?hd (cs := eP p) (t := 39) ?hr ?_; (case hd => rfl); (case hg => rfl); (case hr => first | (go_simp; done) | (go_simp; rfl)); intro g3 hg w1 hbox hb; have HX := Aside0.mk hbox; replace HB := Aside0.mk (below_step (bel_later HB.out) hb); clear hb hg hbox))
  go_loopw [6, 7] (fun v6 v7 wr => ∃ i : Nat, v7 = .int .i64 (i : Int) ∧ Aside0 (i ≤ n) ∧ Aside0 (wr.ownsRow w.heap.size 63 19 v6 (dropE (l.take i) p).length (flE (dropE (l.take i) p))) ∧ Aside0 (wr.heap[g3]? = some (.cells (eP p) 39 (0, 0)) ∧ Below w.heap.size w wr)) (fun _ v7 _ => n - (intOf v7).toNat)
  case atStart => exact ⟨0, rfl, ⟨Nat.zero_le _⟩, ⟨World.ownsRow_nil _ _ _ _⟩, ⟨HX.out, HB.out⟩⟩
  case round =>
    obtain ⟨i, rfl, HI, HO, HE⟩ := hrel
    clear HX HB
    have HX := Aside0.mk HE.out.1
    have HB := Aside0.mk HE.out.2
    clear HE
    by_cases hlt : i < n
    · have c0 : decide ((i : Int) < (n : Int)) = true := decide_eq_true (by omega)
      have c1 : decide (i < n) = true := decide_eq_true hlt
      obtain ⟨e, he⟩ : ∃ e, l[i]? = some e := ⟨l[i]'(by have := HRD.out.len; omega), List.getElem?_eq_getElem _⟩
      have HEE := Aside0.mk he
      have HOE := Aside0.mk (HL.out e (List.mem_of_getElem? he))
      have hidx := fun w => HRD.out.idx w i hlt
      have HLT := Aside0.mk hlt
      have e4 : wrap64 ((i : Int) + 1) = ((i + 1 : Nat) : Int) := wrap_sm1 i (by have := HN.out; omega)
      have HE4 := Aside0.mk e4
      have HR := Aside0.mk ((rd_below HRD.out HB.out).at_ i e he)
      clear hlt he
      by_cases hd : e.p = p
      · have HRUN := Aside0.mk (fun w : World => (eq_pf 9996 e.p p HOE.out HP.out w).trans (by rw [decide_eq_true hd]) : ∀ w : World, (Op.equalIn 10000 39 (.agg (eP e.p)) (.agg (eP p))).run Try.prog w = .ok true w)
        have HDS := Aside0.mk (drop_step_no HEE.out hd)
        clear hd
        go_wp2
        obtain ⟨S, hS⟩ : ∃ S : World → Prop, S = fun w' => w'.heap[g3]? = some (.cells (eP p) 39 (0, 0)) ∧ w'.rangeAt G (i * 19) (lE e) := ⟨_, rfl⟩
        have HSx := Aside0.mk (show ∀ x : World, S x → x.heap[g3]? = some (.cells (eP p) 39 (0, 0)) ∧ x.rangeAt G (i * 19) (lE e) by intro b h; rw [hS] at h; exact h)
        have s0 : S wr.drew := by rw [hS]; exact ⟨blk_later HX.out, range_below HR.out (bel_later (Below.refl _ _))⟩
        clear hS
        refine wp_region_held_drew (S := S) (by kernel_rfl) s0 (fun _ => ?_)
        refine anyH_at (R := fun x => S x ∧ Below wr.heap.size wr x) ⟨s0, bel_later (Below.refl _ _)⟩ (fun w5 h5 => ?_)
        clear s0
        have s0 := h5.1
        have HD5 := Aside0.mk h5.2
        clear h5
        refine wpAnyH_take (i := 0) (v := .slice A n cap) rfl (by kernel_rfl) (by kernel_rfl) (by kernel_rfl) (fun _ _ _ h => h) (Or.inl ⟨by kernel_rfl, fun w' h => by first | (go_simp; done) | (go_simp; rfl)⟩) s0 ?_
        (try simp only [Act.put, List.getElem_toArray, List.getElem_cons_succ, List.getElem_cons_zero, List.setIfInBounds_toArray, List.set_cons_zero, List.set_cons_succ])
        refine wpAnyH_take (i := 1) (v := .int .i64 (i : Int)) rfl (by kernel_rfl) (by kernel_rfl) (by kernel_rfl) (fun _ _ _ h => h) (Or.inl ⟨by kernel_rfl, fun w' h => by first | (go_simp; done) | (go_simp; rfl)⟩) s0 ?_
        (try simp only [Act.put, List.getElem_toArray, List.getElem_cons_succ, List.getElem_cons_zero, List.setIfInBounds_toArray, List.set_cons_zero, List.set_cons_succ])
        refine wpAnyH_take (i := 2) (v := .pointer (some ⟨G, i * 19, none⟩)) rfl (by kernel_rfl) (by kernel_rfl) (by kernel_rfl) (fun _ _ _ h => h) (Or.inl ⟨by kernel_rfl, fun w' h => by have hf := hidx w'; first | (go_simp; done) | (go_simp; rfl)⟩) s0 ?_
        (try simp only [Act.put, List.getElem_toArray, List.getElem_cons_succ, List.getElem_cons_zero, List.setIfInBounds_toArray, List.set_cons_zero, List.set_cons_succ])
        refine wpAnyH_take (i := 3) (v := .pointer (some ⟨G, i * 19, none⟩)) rfl (by kernel_rfl) (by kernel_rfl) (by kernel_rfl) (fun _ _ _ h => h) (Or.inl ⟨by kernel_rfl, fun w' h => by first | (go_simp; done) | (go_simp; rfl)⟩) s0 ?_
        (try simp only [Act.put, List.getElem_toArray, List.getElem_cons_succ, List.getElem_cons_zero, List.setIfInBounds_toArray, List.set_cons_zero, List.set_cons_succ])
        refine wpAnyH_take (i := 4) (v := .agg (lP e.p).toArray) rfl ?ma4b ?ma4c ?ma4d (fun _ _ _ h => h) ?ma4e s0 ?ma4f
        case ma4b => kernel_rfl
        case ma4c => kernel_rfl
        case ma4d => kernel_rfl
        case ma4e =>
          refine yieldsIf_load_mid ?ma4g 39 (.tmp 17) ?ma4h G (i * 19) ?ma4i (lP e.p) _ ?ma4j Try.underlying39 ?ma4k (infoEP HOE.out)
          case ma4g => kernel_rfl
          case ma4h => kernel_rfl
          case ma4i => kernel_rfl
          case ma4k => kernel_rfl
          case ma4j => exact fun w' h => part_pf (HSx.out w' h).2
        (try simp only [Act.put, List.getElem_toArray, List.getElem_cons_succ, List.getElem_cons_zero, List.setIfInBounds_toArray, List.set_cons_zero, List.set_cons_succ])
        refine wpAnyH_take (i := 5) (v := .agg (eP p)) rfl ?qa5b ?qa5c ?qa5d (fun _ _ _ h => h) ?qa5e s0 ?qa5f
        case qa5b => kernel_rfl
        case qa5c => kernel_rfl
        case qa5d => kernel_rfl
        case qa5e => exact yields_row (by kernel_rfl) 39 (.tmp 3) rfl g3 rfl 39 (eP p) (0, 0) _ (fun w' h => (HSx.out w' h).1) Try.underlying39 rfl (infoEP HP.out)
        (try simp only [Act.put, List.getElem_toArray, List.getElem_cons_succ, List.getElem_cons_zero, List.setIfInBounds_toArray, List.set_cons_zero, List.set_cons_succ])
        refine wpAnyH_take (i := 6) (v := .bool false) rfl (by kernel_rfl) (by kernel_rfl) (by kernel_rfl) (fun _ _ _ h => h) (Or.inl ⟨by kernel_rfl, fun w' h => run_neq_op (r := true) rfl rfl rfl (by kernel_rfl) (HRUN.out w')⟩) s0 ?_
        (try simp only [Act.put, List.getElem_toArray, List.getElem_cons_succ, List.getElem_cons_zero, List.setIfInBounds_toArray, List.set_cons_zero, List.set_cons_succ])
        refine wpAnyH_done (by kernel_rfl) ?_ _
        have HX5 := Aside0.mk (HSx.out _ s0).1
        have HR5 := Aside0.mk (HSx.out _ s0).2
        have HB5 := Aside0.mk (below_step HB.out HD5.out)
        clear s0
        have HO5 := Aside0.mk (own_below HO.out HD5.out)
        go_wp2
        go_roundw
        case rel => exact ⟨i + 1, (by first | rfl | exact congrArg (Value.int .i64) HE4.out), ⟨HLT.out⟩, ⟨by rw [HDS.out]; exact HO5.out⟩, ⟨HX5.out, HB5.out⟩⟩
        case measure => exact measureA n i _ (by first | rfl | exact HE4.out) HLT.out
      · have HRUN := Aside0.mk (fun w : World => (eq_pf 9996 e.p p HOE.out HP.out w).trans (by rw [decide_eq_false hd]) : ∀ w : World, (Op.equalIn 10000 39 (.agg (eP e.p)) (.agg (eP p))).run Try.prog w = .ok false w)
        have HDS := Aside0.mk (drop_step_yes HEE.out hd)
        clear hd
        go_wp2
        obtain ⟨S, hS⟩ : ∃ S : World → Prop, S = fun w' => w'.heap[g3]? = some (.cells (eP p) 39 (0, 0)) ∧ w'.rangeAt G (i * 19) (lE e) := ⟨_, rfl⟩
        have HSx := Aside0.mk (show ∀ x : World, S x → x.heap[g3]? = some (.cells (eP p) 39 (0, 0)) ∧ x.rangeAt G (i * 19) (lE e) by intro b h; rw [hS] at h; exact h)
        have s0 : S wr.drew := by rw [hS]; exact ⟨blk_later HX.out, range_below HR.out (bel_later (Below.refl _ _))⟩
        clear hS
        refine wp_region_held_drew (S := S) (by kernel_rfl) s0 (fun _ => ?_)
        refine anyH_at (R := fun x => S x ∧ Below wr.heap.size wr x) ⟨s0, bel_later (Below.refl _ _)⟩ (fun w5 h5 => ?_)
        clear s0
        have s0 := h5.1
        have HD5 := Aside0.mk h5.2
        clear h5
        refine wpAnyH_take (i := 0) (v := .slice A n cap) rfl (by kernel_rfl) (by kernel_rfl) (by kernel_rfl) (fun _ _ _ h => h) (Or.inl ⟨by kernel_rfl, fun w' h => by first | (go_simp; done) | (go_simp; rfl)⟩) s0 ?_
        (try simp only [Act.put, List.getElem_toArray, List.getElem_cons_succ, List.getElem_cons_zero, List.setIfInBounds_toArray, List.set_cons_zero, List.set_cons_succ])
        refine wpAnyH_take (i := 1) (v := .int .i64 (i : Int)) rfl (by kernel_rfl) (by kernel_rfl) (by kernel_rfl) (fun _ _ _ h => h) (Or.inl ⟨by kernel_rfl, fun w' h => by first | (go_simp; done) | (go_simp; rfl)⟩) s0 ?_
        (try simp only [Act.put, List.getElem_toArray, List.getElem_cons_succ, List.getElem_cons_zero, List.setIfInBounds_toArray, List.set_cons_zero, List.set_cons_succ])
        refine wpAnyH_take (i := 2) (v := .pointer (some ⟨G, i * 19, none⟩)) rfl (by kernel_rfl) (by kernel_rfl) (by kernel_rfl) (fun _ _ _ h => h) (Or.inl ⟨by kernel_rfl, fun w' h => by have hf := hidx w'; first | (go_simp; done) | (go_simp; rfl)⟩) s0 ?_
        (try simp only [Act.put, List.getElem_toArray, List.getElem_cons_succ, List.getElem_cons_zero, List.setIfInBounds_toArray, List.set_cons_zero, List.set_cons_succ])
        refine wpAnyH_take (i := 3) (v := .pointer (some ⟨G, i * 19, none⟩)) rfl (by kernel_rfl) (by kernel_rfl) (by kernel_rfl) (fun _ _ _ h => h) (Or.inl ⟨by kernel_rfl, fun w' h => by first | (go_simp; done) | (go_simp; rfl)⟩) s0 ?_
        (try simp only [Act.put, List.getElem_toArray, List.getElem_cons_succ, List.getElem_cons_zero, List.setIfInBounds_toArray, List.set_cons_zero, List.set_cons_succ])
        refine wpAnyH_take (i := 4) (v := .agg (lP e.p).toArray) rfl ?mb4b ?mb4c ?mb4d (fun _ _ _ h => h) ?mb4e s0 ?mb4f
        case mb4b => kernel_rfl
        case mb4c => kernel_rfl
        case mb4d => kernel_rfl
        case mb4e =>
          refine yieldsIf_load_mid ?mb4g 39 (.tmp 17) ?mb4h G (i * 19) ?mb4i (lP e.p) _ ?mb4j Try.underlying39 ?mb4k (infoEP HOE.out)
          case mb4g => kernel_rfl
          case mb4h => kernel_rfl
          case mb4i => kernel_rfl
          case mb4k => kernel_rfl
          case mb4j => exact fun w' h => part_pf (HSx.out w' h).2
        (try simp only [Act.put, List.getElem_toArray, List.getElem_cons_succ, List.getElem_cons_zero, List.setIfInBounds_toArray, List.set_cons_zero, List.set_cons_succ])
        refine wpAnyH_take (i := 5) (v := .agg (eP p)) rfl ?qb5b ?qb5c ?qb5d (fun _ _ _ h => h) ?qb5e s0 ?qb5f
        case qb5b => kernel_rfl
        case qb5c => kernel_rfl
        case qb5d => kernel_rfl
        case qb5e => exact yields_row (by kernel_rfl) 39 (.tmp 3) rfl g3 rfl 39 (eP p) (0, 0) _ (fun w' h => (HSx.out w' h).1) Try.underlying39 rfl (infoEP HP.out)
        (try simp only [Act.put, List.getElem_toArray, List.getElem_cons_succ, List.getElem_cons_zero, List.setIfInBounds_toArray, List.set_cons_zero, List.set_cons_succ])
        refine wpAnyH_take (i := 6) (v := .bool true) rfl (by kernel_rfl) (by kernel_rfl) (by kernel_rfl) (fun _ _ _ h => h) (Or.inl ⟨by kernel_rfl, fun w' h => run_neq_op (r := false) rfl rfl rfl (by kernel_rfl) (HRUN.out w')⟩) s0 ?_
        (try simp only [Act.put, List.getElem_toArray, List.getElem_cons_succ, List.getElem_cons_zero, List.setIfInBounds_toArray, List.set_cons_zero, List.set_cons_succ])
        refine wpAnyH_done (by kernel_rfl) ?_ _
        have HX5 := Aside0.mk (HSx.out _ s0).1
        have HR5 := Aside0.mk (HSx.out _ s0).2
        have HB5 := Aside0.mk (below_step HB.out HD5.out)
        clear s0
        have HO5 := Aside0.mk (own_below HO.out HD5.out)
        go_wp2_with (first
          | ((with_reducible refine gate_dst (N := 25) rfl ?_); refine wpList_load_mid rfl 63 (.tmp 24) rfl G (i * 19) rfl (lE e) _ HR5.out Try.underlying63 rfl (infoEr6 HOE.out) ?_)
          | ((with_reducible refine gate_dst (N := 26) rfl ?_); refine wp_lit_er rfl (.tmp 25) rfl e HOE.out rfl ?_; intro vb w6 hvb hb6; have HO6 := Aside0.mk (own_below HO5.out hb6); have HV6 := Aside0.mk (val_at hvb); have HX6 := Aside0.mk (blk_below HX5.out hb6); have HB6 := Aside0.mk (below_step HB5.out hb6); clear hvb hb6)
          | (at_builtin; refine wpList_append_own _ rfl _ _ 51 rfl w.heap.size 63 i0 (.agg (eE noE)) 19 40 Try.underlying51 hi0 hz0 hz1 hz2 (eE_size ok_noE) (by decide) _ _ _ rfl HO6.out ⟨vb, 0, none⟩ 1 1 (lE e) rfl (by rw [lE_len HOE.out]) HV6.out (lE_one e) (drop_room HL.out HI.out HRD.out.len HN.out).1 (drop_room HL.out HI.out HRD.out.len HN.out).2 (below_size HB6.out) ?_))
        intro v' w7 hown hgrow hnil
        have HB7 := Aside0.mk (below_grown HB6.out hgrow (fun k hk => (HO6.out.lt k hk).1) (Nat.le_refl _))
        have HX7 := Aside0.mk ((hgrow.block g3 (Array.getElem?_eq_some_iff.1 HX6.out).1 (er_ne HO6.out HX6.out (by intro cs fr e; cases e))).trans HX6.out)
        have HO7 := Aside0.mk hown
        clear hown hgrow hnil
        go_wp2
        go_roundw
        case rel => exact ⟨i + 1, (by first | rfl | exact congrArg (Value.int .i64) HE4.out), ⟨HLT.out⟩, ⟨by rw [HDS.out, List.length_append, flE_append]; simpa [flE] using HO7.out⟩, ⟨HX7.out, HB7.out⟩⟩
        case measure => exact measureA n i _ (by first | rfl | exact HE4.out) HLT.out
    · have c0 : decide ((i : Int) < (n : Int)) = false := decide_eq_false (by omega)
      have c1 : decide (i < n) = false := decide_eq_false hlt
      have hin : i = n := by have := HI.out; omega
      have HD := Aside0.mk (show l.take i = l by rw [hin, ← HRD.out.len, List.take_length])
      rw [HD.out] at HO
      have HLS := Aside0.mk (drop_less l p)
      rw [HRD.out.len] at HLS
      obtain ⟨A', cap', G', hv6, _, _⟩ := rd_of_row HO.out (ok_dropE HL.out p) 51 (fun g n cap i w hi => idx_er g n cap i w hi) 0
      subst hv6
      clear hlt hin
      go_wp2
      go_ret2
      exact ⟨_, by rw [← HLS.out]; first | rfl | simp, HO.out, HB.out⟩
theorem rd_of_own {w : World} {base : Nat} {te : TypeId} {v : Value} {l : List En} (h : w.ownsRow base te 19 v l.length (flE l)) (hl : okE l) (ty : TypeId)
    (hidx : ∀ (g n cap i : Nat) (w : World), i < n → (Instr.indexAt ty (.slice (some ⟨g, 0, none⟩) n cap) (.int .i64 (i : Int))).run Try.prog w = .ok (.pointer (some ⟨g, i * 19, none⟩)) w) :
    ∃ (A : Option Addr) (cap G : Nat), v = .slice A l.length cap ∧ Rd w ty A l.length cap G l ∧ ((A = none ∧ cap = 0 ∧ l = []) ∨ (∃ cur, w.heap[G]? = some (.cells cur te (0, 0)) ∧ A = some ⟨G, 0, none⟩ ∧ base ≤ G ∧ l.length ≤ cap)) := by
  rcases h.2 with ⟨hv, hn⟩ | ⟨g, cap, cur, hv, hb, hg, hc, hm, hs, ht⟩
  · have hl0 : l = [] := List.length_eq_zero_iff.1 hn
    subst hl0
    exact ⟨none, 0, 0, hv, ⟨rfl, fun w i hi => absurd hi (Nat.not_lt_zero _), fun i e he => by simp at he⟩, .inl ⟨rfl, rfl, rfl⟩⟩
  · refine ⟨some ⟨g, 0, none⟩, cap, g, hv, ⟨rfl, fun w i hi => hidx g l.length cap i w hi, fun i e he => ?_⟩, .inr ⟨cur, hg, rfl, hb, hc⟩⟩
    exact range_of_block hg ht (fun j u hj => flE_get hl he hj)
/-- What the search from behind has found parts the entries. -/
theorem set_parts {l : List En} (hl : okE l) (hs : Sorted l) {p : Pf} (hp : p.a.ok) {k : Nat} (hk : k ≤ (dropE l p).length) (h1 : ∀ (j : Nat) (x : En), k ≤ j → (dropE l p)[j]? = some x → cmpP p x.p < 0) (h2 : ∀ x, 0 < k → (dropE l p)[k - 1]? = some x → ¬ cmpP p x.p < 0) (v : Int) :
    (dropE l p).take k ++ ⟨p, v⟩ :: (dropE l p).drop k = setE l p v := by
  have ok1 := ok_dropE hl p
  have hs1 := sorted_dropE hs p
  have hne : ∀ e ∈ dropE l p, e.p ≠ p := fun e he h => by
    have := (List.mem_filter.1 he).2
    simp [h] at this
  have hsw : ∀ e ∈ dropE l p, cmpP p e.p = - cmpP e.p p := fun e he => cmpP_swap (ok1 e he) hp
  have hnz : ∀ e ∈ dropE l p, cmpP e.p p ≠ 0 := fun e he h => hne e he ((cmpP_zero (ok1 e he) hp).1 h)
  have hlo : ∀ e ∈ (dropE l p).take k, cmpP e.p p < 0 := fun e he => by
    obtain ⟨j, hj, rfl⟩ := List.getElem_of_mem he
    rw [List.getElem_take]
    have hjk : j < k := by rw [List.length_take] at hj; omega
    have hjl : j < (dropE l p).length := by omega
    have hkl : k - 1 < (dropE l p).length := by omega
    have h3 := h2 _ (by omega) (List.getElem?_eq_getElem hkl)
    have h4 := hsw _ (List.getElem_mem hkl)
    have h5 := hnz _ (List.getElem_mem hkl)
    have h6 : cmpP ((dropE l p)[k - 1]).p p < 0 := by omega
    by_cases hjk2 : j = k - 1
    · subst hjk2; exact h6
    · have h7 := List.pairwise_iff_getElem.1 hs1 j (k - 1) hjl hkl (by omega)
      exact cmpP_trans (ok1 _ (List.getElem_mem hjl)) (ok1 _ (List.getElem_mem hkl)) hp h7 h6
  have hhi : ∀ e ∈ (dropE l p).drop k, 0 < cmpP e.p p := fun e he => by
    obtain ⟨j, hj, rfl⟩ := List.getElem_of_mem he
    rw [List.getElem_drop]
    rw [List.length_drop] at hj
    have hjl : k + j < (dropE l p).length := by omega
    have h3 := h1 (k + j) _ (Nat.le_add_right _ _) (List.getElem?_eq_getElem hjl)
    have h4 := hsw _ (List.getElem_mem hjl)
    omega
  have e1 : ltE l p = ltE (dropE l p) p := by
    unfold ltE dropE
    rw [List.filter_filter]
    refine List.filter_congr (fun e he => ?_)
    by_cases h : cmpP e.p p < 0
    · have : ¬ e.p = p := fun h3 => by rw [(cmpP_zero (hl e he) hp).2 h3] at h; omega
      simp [h, this]
    · simp [h]
  have e2 : gtE l p = gtE (dropE l p) p := by
    unfold gtE dropE
    rw [List.filter_filter]
    refine List.filter_congr (fun e he => ?_)
    by_cases h : 0 < cmpP e.p p
    · have : ¬ e.p = p := fun h3 => by rw [(cmpP_zero (hl e he) hp).2 h3] at h; omega
      simp [h, this]
    · simp [h]
  unfold setE
  rw [e1, e2]
  congr 1
  · unfold ltE
    conv => rhs; rw [← List.take_append_drop k (dropE l p)]
    rw [List.filter_append, List.filter_eq_self.2 (fun e he => decide_eq_true (hlo e he)), List.filter_eq_nil_iff.2 (fun e he => by have := hhi e he; simp only [decide_eq_true_eq]; omega), List.append_nil]
  · congr 1
    unfold gtE
    conv => rhs; rw [← List.take_append_drop k (dropE l p)]
    rw [List.filter_append, List.filter_eq_nil_iff.2 (fun e he => by have := hlo e he; simp only [decide_eq_true_eq]; omega), List.nil_append, List.filter_eq_self.2 (fun e he => decide_eq_true (hhi e he))]
theorem built_er16 (f n v b0 b1 b2 b3 b4 b5 b6 b7 b8 b9 b10 b11 b12 b13 b14 b15 : Int) : Try.prog.built 63 [(0, .agg (eP ⟨⟨f, [b0, b1, b2, b3, b4, b5, b6, b7, b8, b9, b10, b11, b12, b13, b14, b15]⟩, n⟩)), (1, .int .i64 v)] = some (eE ⟨⟨⟨f, [b0, b1, b2, b3, b4, b5, b6, b7, b8, b9, b10, b11, b12, b13, b14, b15]⟩, n⟩, v⟩) := by kernel_rfl
theorem built_er {p : Pf} (hp : p.a.ok) (v : Int) : Try.prog.built 63 [(0, .agg (eP p)), (1, .int .i64 v)] = some (eE ⟨p, v⟩) := by
  obtain ⟨⟨f, bs⟩, n⟩ := p
  match bs, hp.1 with
  | [b0, b1, b2, b3, b4, b5, b6, b7, b8, b9, b10, b11, b12, b13, b14, b15], _ => exact built_er16 f n v b0 b1 b2 b3 b4 b5 b6 b7 b8 b9 b10 b11 b12 b13 b14 b15
theorem flE_cells {w : World} {G : Nat} {l : List En} (h : ∀ (i : Nat) (e : En), l[i]? = some e → w.rangeAt G (i * 19) (lE e)) (hl : okE l) : ∀ j u, (flE l)[j]? = some u → w.cell? ⟨G, j, none⟩ = some u := by
  intro j u hj
  have hjl : j < (flE l).length := (List.getElem?_eq_some_iff.1 hj).1
  rw [flE_len hl] at hjl
  have hi : j / 19 < l.length := by omega
  obtain ⟨e, he⟩ : ∃ e, l[j / 19]? = some e := ⟨l[j / 19], List.getElem?_eq_getElem hi⟩
  have hlt : j % 19 < (lE e).length := by rw [lE_len (hl e (List.mem_of_getElem? he))]; omega
  have h1 := flE_get hl he (List.getElem?_eq_getElem hlt)
  rw [show j / 19 * 19 + j % 19 = j by omega, hj] at h1
  cases h1
  have h2 := h (j / 19) e he (j % 19) _ (List.getElem?_eq_getElem hlt)
  rw [show j / 19 * 19 + j % 19 = j by omega] at h2
  exact h2
theorem cell_below {w w' : World} {a : Addr} {u : Value} (h : w.cell? a = some u) (hb : Below w.heap.size w w') : w'.cell? a = some u :=
  (World.cell?_of_block (hb.block a.block (World.block_lt_of_cell? w a h))).trans h
theorem wrap_dn1K (k : Nat) (h0 : 0 < k) (h : k ≤ 1000000) : IntKind.i64.wrap ((k : Int) - 1) = ((k - 1 : Nat) : Int) := by rw [IntKind.wrap_i64]; omega
theorem wrap_dn1 (k : Nat) (h0 : 0 < k) (h : k ≤ 1000000) : wrap64 ((k : Int) - 1) = ((k - 1 : Nat) : Int) := by unfold wrap64; omega
set_option maxHeartbeats 8000000 in
set_option maxRecDepth 100000 in
theorem ref06_Set_no (A : Option Addr) (n cap G : Nat) (l : List En) (hl : okE l) (hs : Sorted l) (p : Pf) (hp : p.a.ok) (v : Int) (w : World) (hrd : Rd w 51 A n cap G l) (hn : n ≤ 1000) (hm : mayP p = false) :
    Calls Try.prog 25 #[.slice A n cap, .agg (eP p), .int .i64 v] w fun r w' => r = .returned (.tuple #[.slice A n cap, .int .i64 1]) ∧ Below w.heap.size w w' := by
  have HB := Aside0.mk (Below.refl w.heap.size w)
  have HP := Aside0.mk hp
  have HL := Aside0.mk hl
  have HS := Aside0.mk hs
  have HRD := Aside0.mk hrd
  have HN := Aside0.mk hn
  have HM := Aside0.mk hm
  obtain ⟨i0, hi0, hz0, hz1, hz2⟩ := info_parts info_Er
  clear hp hl hs hrd hn hm
  go_enter Try.func25, Try.ntmps25
  go_wp2_with (first
    | ((with_reducible refine gate_dst (N := 4) rfl ?_); refine box_event ?hg (N := 4) ?hd (cs := eP p) (t := 39) ?hr ?_; (case hd => rfl); (case hg => rfl); (case hr => first | (go_simp; done) | (go_simp; rfl)); intro g4 hg w1 hbox hb; have HX := Aside0.mk hbox; replace HB := Aside0.mk (below_step (bel_later HB.out) hb); clear hb hg hbox)
    | ((with_reducible refine gate_dst (N := 13) rfl ?_); refine wpList_load_row rfl 39 (.tmp 4) rfl g4 rfl 39 (eP p) (0, 0) _ HX.out Try.underlying39 rfl (infoEP HP.out) ?_)
    | (go_at_call 52; refine (ref05_May p HP.out _).mono ?_; rintro r w2 ⟨rfl, hb⟩; rw [HM.out]; replace HX := Aside0.mk (blk_below HX.out hb); replace HB := Aside0.mk (below_step HB.out hb); clear hb))
  go_ret2
  exact ⟨rfl, HB.out⟩
set_option maxHeartbeats 16000000 in
set_option maxRecDepth 100000 in
theorem ref06_Set_yes (A : Option Addr) (n cap G : Nat) (l : List En) (hl : okE l) (hs : Sorted l) (p : Pf) (hp : p.a.ok) (v : Int) (w : World) (hrd : Rd w 51 A n cap G l) (hn : n ≤ 1000) (hm : mayP p = true) :
    Calls Try.prog 25 #[.slice A n cap, .agg (eP p), .int .i64 v] w fun r w' => ∃ v', r = .returned (.tuple #[v', .int .i64 0]) ∧ w'.ownsRow w.heap.size 63 19 v' (setE l p v).length (flE (setE l p v)) ∧ Below w.heap.size w w' := by
  have HB := Aside0.mk (Below.refl w.heap.size w)
  have HP := Aside0.mk hp
  have HL := Aside0.mk hl
  have HS := Aside0.mk hs
  have HRD := Aside0.mk hrd
  have HN := Aside0.mk hn
  have HM := Aside0.mk hm
  obtain ⟨i0, hi0, hz0, hz1, hz2⟩ := info_parts info_Er
  clear hp hl hs hrd hn hm
  go_enter Try.func25, Try.ntmps25
  go_wp2_with (first
    | ((with_reducible refine gate_dst (N := 4) rfl ?_); refine box_event ?hg (N := 4) ?hd (cs := eP p) (t := 39) ?hr ?_; (case hd => rfl); (case hg => rfl); (case hr => first | (go_simp; done) | (go_simp; rfl)); intro g4 hg w1 hbox hb; have HX := Aside0.mk hbox; replace HB := Aside0.mk (below_step (bel_later HB.out) hb); clear hb hg hbox)
    | ((with_reducible refine gate_dst (N := 13) rfl ?_); refine wpList_load_row rfl 39 (.tmp 4) rfl g4 rfl 39 (eP p) (0, 0) _ HX.out Try.underlying39 rfl (infoEP HP.out) ?_)
    | (go_at_call 52; refine (ref05_May p HP.out _).mono ?_; rintro r w2 ⟨rfl, hb⟩; rw [HM.out]; replace HX := Aside0.mk (blk_below HX.out hb); replace HB := Aside0.mk (below_step HB.out hb); clear hb)
    | ((with_reducible refine gate_dst (N := 20) rfl ?_); refine wpList_load_row rfl 39 (.tmp 4) rfl g4 rfl 39 (eP p) (0, 0) _ HX.out Try.underlying39 rfl (infoEP HP.out) ?_)
    | (go_at_call 53; refine (ref06_Drop A n cap G l HL.out p HP.out _ (rd_below HRD.out HB.out) HN.out).mono ?_; rintro r w4 ⟨v9, rfl, hown, hb⟩; obtain ⟨A2, cap2, G2, rfl, hrd2, hG2⟩ := rd_of_own hown (ok_dropE HL.out p) 51 (fun g n cap i w hi => idx_er g n cap i w hi); have HRD2 := Aside0.mk hrd2; have HG2 := Aside0.mk hG2; replace HX := Aside0.mk (blk_below HX.out hb); replace HB := Aside0.mk (below_step HB.out hb); clear hb hown hrd2 hG2))
  obtain ⟨m, hm⟩ : ∃ m, (dropE l p).length = m := ⟨_, rfl⟩
  have HM2 := Aside0.mk hm
  have HML := Aside0.mk (show m ≤ 1000 by
    have h1 : (dropE l p).length ≤ l.length := List.length_filter_le _ _
    have := HRD.out.len
    have := HN.out
    omega)
  rw [hm] at HRD2 ⊢
  clear hm
  go_loopw [11] (fun v11 wr => ∃ k : Nat, v11 = .int .i64 (k : Int) ∧ Aside0 (k ≤ m) ∧ Aside0 (∀ (j : Nat) (x : En), k ≤ j → (dropE l p)[j]? = some x → cmpP p x.p < 0) ∧ Aside0 (wr.heap[g4]? = some (.cells (eP p) 39 (0, 0)) ∧ Below w4.heap.size w4 wr)) (fun v11 _ => (intOf v11).toNat)
  case atStart => exact ⟨m, rfl, ⟨Nat.le_refl _⟩, ⟨fun j x hj hx => by
    have := (List.getElem?_eq_some_iff.1 hx).1
    have := HM2.out
    omega⟩, ⟨HX.out, Below.refl _ _⟩⟩
  case round =>
    obtain ⟨k, rfl, HI, HJ, HE⟩ := hrel
    clear HX
    have HX := Aside0.mk HE.out.1
    have HB4 := Aside0.mk HE.out.2
    clear HE
    by_cases hk0 : 0 < k
    · have c0 : decide ((0 : Int) < (k : Int)) = true := decide_eq_true (by omega)
      have c1 : decide (0 < k) = true := decide_eq_true hk0
      obtain ⟨e, he⟩ : ∃ e, (dropE l p)[k - 1]? = some e := ⟨(dropE l p)[k - 1]'(by have := HI.out; have := HM2.out; omega), List.getElem?_eq_getElem _⟩
      have HEE := Aside0.mk he
      have HOE := Aside0.mk (ok_dropE HL.out p e (List.mem_of_getElem? he))
      have hidx := fun w => HRD2.out.idx w (k - 1) (by have := HI.out; omega)
      have e4 : wrap64 ((k : Int) - 1) = ((k - 1 : Nat) : Int) := wrap_dn1 k hk0 (by have := HI.out; have := HML.out; omega)
      have HE4 := Aside0.mk e4
      have e4K : IntKind.i64.wrap ((k : Int) - 1) = ((k - 1 : Nat) : Int) := wrap_dn1K k hk0 (by have := HI.out; have := HML.out; omega)
      have HR := Aside0.mk ((rd_below HRD2.out HB4.out).at_ (k - 1) e he)
      have HK0 := Aside0.mk hk0
      clear hk0 he
      by_cases hc : cmpP p e.p < 0
      · have c2 : decide (cmpP p e.p < 0) = true := decide_eq_true hc
        have HC := Aside0.mk hc
        clear hc
        go_wp2
        obtain ⟨S, hS⟩ : ∃ S : World → Prop, S = fun w' => w'.heap[g4]? = some (.cells (eP p) 39 (0, 0)) ∧ w'.rangeAt G2 ((k - 1) * 19) (lE e) ∧ Below wr.heap.size wr w' := ⟨_, rfl⟩
        have HSx := Aside0.mk (show ∀ x : World, S x → x.heap[g4]? = some (.cells (eP p) 39 (0, 0)) ∧ x.rangeAt G2 ((k - 1) * 19) (lE e) ∧ Below wr.heap.size wr x by intro b h; rw [hS] at h; exact h)
        have HSt := Aside0.mk (show ∀ a b : World, S a → Below a.heap.size a b → S b by
          intro a b h hb
          rw [hS] at h ⊢
          exact ⟨blk_below h.1 hb, range_below h.2.1 hb, below_step h.2.2 hb⟩)
        have s0 : S wr.drew := by rw [hS]; exact ⟨blk_later HX.out, range_below HR.out (bel_later (Below.refl _ _)), bel_later (Below.refl _ _)⟩
        clear hS
        refine wp_region_held_drew (S := S) (by kernel_rfl) s0 (fun _ => ?_)
        refine anyH_world s0 (fun w5 s5 => ?_)
        clear s0
        have s0 := s5
        clear s5
        refine wpAnyH_take (i := 0) (v := .int .i64 (k : Int)) rfl (by kernel_rfl) (by kernel_rfl) (by kernel_rfl) (fun _ _ _ h => h) (Or.inl ⟨by kernel_rfl, fun w' h => by first | (go_simp; done) | (go_simp; rfl)⟩) s0 ?_
        (try simp only [Act.put, List.getElem_toArray, List.getElem_cons_succ, List.getElem_cons_zero, List.setIfInBounds_toArray, List.set_cons_zero, List.set_cons_succ])
        refine wpAnyH_take (i := 1) (v := .bool true) rfl (by kernel_rfl) (by kernel_rfl) (by kernel_rfl) (fun _ _ _ h => h) (Or.inl ⟨by kernel_rfl, fun w' h => by first | (go_simp; done) | (go_simp; rfl)⟩) s0 ?_
        (try simp only [Act.put, List.getElem_toArray, List.getElem_cons_succ, List.getElem_cons_zero, List.setIfInBounds_toArray, List.set_cons_zero, List.set_cons_succ])
        refine wpAnyH_take (i := 2) (v := .bool true) rfl (by kernel_rfl) (by kernel_rfl) (by kernel_rfl) (fun _ _ _ h => h) (Or.inl ⟨by kernel_rfl, fun w' h => by first | (go_simp; done) | (go_simp; rfl)⟩) s0 ?_
        (try simp only [Act.put, List.getElem_toArray, List.getElem_cons_succ, List.getElem_cons_zero, List.setIfInBounds_toArray, List.set_cons_zero, List.set_cons_succ])
        refine wpAnyH_take (i := 3) (v := .agg (eP p)) rfl ?qa3b ?qa3c ?qa3d (fun _ _ _ h => h) ?qa3e s0 ?qa3f
        case qa3b => kernel_rfl
        case qa3c => kernel_rfl
        case qa3d => kernel_rfl
        case qa3e => exact yields_row (by kernel_rfl) 39 (.tmp 4) rfl g4 rfl 39 (eP p) (0, 0) _ (fun w' h => (HSx.out w' h).1) Try.underlying39 rfl (infoEP HP.out)
        (try simp only [Act.put, List.getElem_toArray, List.getElem_cons_succ, List.getElem_cons_zero, List.setIfInBounds_toArray, List.set_cons_zero, List.set_cons_succ])
        refine wpAnyH_take (i := 4) (v := .slice A2 m cap2) rfl (by kernel_rfl) (by kernel_rfl) (by kernel_rfl) (fun _ _ _ h => h) (Or.inl ⟨by kernel_rfl, fun w' h => by first | (go_simp; done) | (go_simp; rfl)⟩) s0 ?_
        (try simp only [Act.put, List.getElem_toArray, List.getElem_cons_succ, List.getElem_cons_zero, List.setIfInBounds_toArray, List.set_cons_zero, List.set_cons_succ])
        refine wpAnyH_take (i := 5) (v := .int .i64 (k : Int)) rfl (by kernel_rfl) (by kernel_rfl) (by kernel_rfl) (fun _ _ _ h => h) (Or.inl ⟨by kernel_rfl, fun w' h => by first | (go_simp; done) | (go_simp; rfl)⟩) s0 ?_
        (try simp only [Act.put, List.getElem_toArray, List.getElem_cons_succ, List.getElem_cons_zero, List.setIfInBounds_toArray, List.set_cons_zero, List.set_cons_succ])
        refine wpAnyH_take (i := 6) (v := .int .i64 ((k - 1 : Nat) : Int)) rfl (by kernel_rfl) (by kernel_rfl) (by kernel_rfl) (fun _ _ _ h => h) (Or.inl ⟨by kernel_rfl, fun w' h => by first | (go_simp; done) | (go_simp; rfl)⟩) s0 ?_
        (try simp only [Act.put, List.getElem_toArray, List.getElem_cons_succ, List.getElem_cons_zero, List.setIfInBounds_toArray, List.set_cons_zero, List.set_cons_succ])
        refine wpAnyH_take (i := 7) (v := .pointer (some ⟨G2, (k - 1) * 19, none⟩)) rfl (by kernel_rfl) (by kernel_rfl) (by kernel_rfl) (fun _ _ _ h => h) (Or.inl ⟨by kernel_rfl, fun w' h => by have hf := hidx w'; first | (go_simp; done) | (go_simp; rfl)⟩) s0 ?_
        (try simp only [Act.put, List.getElem_toArray, List.getElem_cons_succ, List.getElem_cons_zero, List.setIfInBounds_toArray, List.set_cons_zero, List.set_cons_succ])
        refine wpAnyH_take (i := 8) (v := .pointer (some ⟨G2, (k - 1) * 19, none⟩)) rfl (by kernel_rfl) (by kernel_rfl) (by kernel_rfl) (fun _ _ _ h => h) (Or.inl ⟨by kernel_rfl, fun w' h => by first | (go_simp; done) | (go_simp; rfl)⟩) s0 ?_
        (try simp only [Act.put, List.getElem_toArray, List.getElem_cons_succ, List.getElem_cons_zero, List.setIfInBounds_toArray, List.set_cons_zero, List.set_cons_succ])
        refine wpAnyH_take (i := 9) (v := .agg (lP e.p).toArray) rfl ?ma9b ?ma9c ?ma9d (fun _ _ _ h => h) ?ma9e s0 ?ma9f
        case ma9b => kernel_rfl
        case ma9c => kernel_rfl
        case ma9d => kernel_rfl
        case ma9e =>
          refine yieldsIf_load_mid ?ma9g 39 (.tmp 34) ?ma9h G2 ((k - 1) * 19) ?ma9i (lP e.p) _ ?ma9j Try.underlying39 ?ma9k (infoEP HOE.out)
          case ma9g => kernel_rfl
          case ma9h => kernel_rfl
          case ma9i => kernel_rfl
          case ma9k => kernel_rfl
          case ma9j => exact fun w' h => part_pf (HSx.out w' h).2.1
        (try simp only [Act.put, List.getElem_toArray, List.getElem_cons_succ, List.getElem_cons_zero, List.setIfInBounds_toArray, List.set_cons_zero, List.set_cons_succ])
        refine held_step (i := 10) (by kernel_rfl) rfl (by kernel_rfl) (fun K hK => ?_)
        go_wp2_with (go_at_call 54; refine (ref05_Compare p e.p HP.out HOE.out w5).mono ?_; rintro r w6 ⟨rfl, hb⟩; have s1 := HSt.out _ _ s0 hb; clear hb)
        refine hK.out _ _ s1 ?_
        clear hK K
        (try simp only [Act.put, List.getElem_toArray, List.getElem_cons_succ, List.getElem_cons_zero, List.setIfInBounds_toArray, List.set_cons_zero, List.set_cons_succ])
        refine wpAnyH_take (i := 11) (v := .bool true) rfl (by kernel_rfl) (by kernel_rfl) (by kernel_rfl) (fun _ _ _ h => h) (Or.inl ⟨by kernel_rfl, fun w' h => by first | (go_simp; done) | (go_simp; rfl)⟩) s1 ?_
        (try simp only [Act.put, List.getElem_toArray, List.getElem_cons_succ, List.getElem_cons_zero, List.setIfInBounds_toArray, List.set_cons_zero, List.set_cons_succ])
        refine wpAnyH_take (i := 12) (v := .bool true) rfl (by kernel_rfl) (by kernel_rfl) (by kernel_rfl) (fun _ _ _ h => h) (Or.inl ⟨by kernel_rfl, fun w' h => by first | (go_simp; done) | (go_simp; rfl)⟩) s1 ?_
        (try simp only [Act.put, List.getElem_toArray, List.getElem_cons_succ, List.getElem_cons_zero, List.setIfInBounds_toArray, List.set_cons_zero, List.set_cons_succ])
        refine wpAnyH_done (by kernel_rfl) ?_ _
        have HX6 := Aside0.mk (HSx.out _ s1).1
        have HB6 := Aside0.mk (below_step HB4.out (HSx.out _ s1).2.2)
        clear s0 s1
        go_wp2
        go_roundw
        case rel => exact ⟨k - 1, (by first | rfl | exact congrArg (Value.int .i64) HE4.out), ⟨by have := HI.out; omega⟩, ⟨fun j x hj hx => by
          by_cases hjk : j = k - 1
          · rw [hjk, HEE.out] at hx
            cases hx
            exact HC.out
          · exact HJ.out j x (by omega) hx⟩, ⟨HX6.out, HB6.out⟩⟩
        case measure =>
          (try rw [HE4.out])
          show (((k - 1 : Nat) : Int)).toNat < ((k : Int)).toNat
          rw [Int.toNat_natCast, Int.toNat_natCast]
          have := HK0.out
          omega
      · have c2 : decide (cmpP p e.p < 0) = false := decide_eq_false hc
        have HPA := Aside0.mk (set_parts HL.out HS.out HP.out (k := k) (by have := HI.out; have := HM2.out; omega) HJ.out (fun x _ hx => by rw [HEE.out] at hx; cases hx; exact hc) v)
        clear hc
        have HNE := Aside0.mk (show dropE l p ≠ [] by
          intro h
          have h1 := HEE.out
          rw [h] at h1
          simp at h1)
        go_wp2
        obtain ⟨S, hS⟩ : ∃ S : World → Prop, S = fun w' => w'.heap[g4]? = some (.cells (eP p) 39 (0, 0)) ∧ w'.rangeAt G2 ((k - 1) * 19) (lE e) ∧ Below wr.heap.size wr w' := ⟨_, rfl⟩
        have HSx := Aside0.mk (show ∀ x : World, S x → x.heap[g4]? = some (.cells (eP p) 39 (0, 0)) ∧ x.rangeAt G2 ((k - 1) * 19) (lE e) ∧ Below wr.heap.size wr x by intro b h; rw [hS] at h; exact h)
        have HSt := Aside0.mk (show ∀ a b : World, S a → Below a.heap.size a b → S b by
          intro a b h hb
          rw [hS] at h ⊢
          exact ⟨blk_below h.1 hb, range_below h.2.1 hb, below_step h.2.2 hb⟩)
        have s0 : S wr.drew := by rw [hS]; exact ⟨blk_later HX.out, range_below HR.out (bel_later (Below.refl _ _)), bel_later (Below.refl _ _)⟩
        clear hS
        refine wp_region_held_drew (S := S) (by kernel_rfl) s0 (fun _ => ?_)
        refine anyH_world s0 (fun w5 s5 => ?_)
        clear s0
        have s0 := s5
        clear s5
        refine wpAnyH_take (i := 0) (v := .int .i64 (k : Int)) rfl (by kernel_rfl) (by kernel_rfl) (by kernel_rfl) (fun _ _ _ h => h) (Or.inl ⟨by kernel_rfl, fun w' h => by first | (go_simp; done) | (go_simp; rfl)⟩) s0 ?_
        (try simp only [Act.put, List.getElem_toArray, List.getElem_cons_succ, List.getElem_cons_zero, List.setIfInBounds_toArray, List.set_cons_zero, List.set_cons_succ])
        refine wpAnyH_take (i := 1) (v := .bool true) rfl (by kernel_rfl) (by kernel_rfl) (by kernel_rfl) (fun _ _ _ h => h) (Or.inl ⟨by kernel_rfl, fun w' h => by first | (go_simp; done) | (go_simp; rfl)⟩) s0 ?_
        (try simp only [Act.put, List.getElem_toArray, List.getElem_cons_succ, List.getElem_cons_zero, List.setIfInBounds_toArray, List.set_cons_zero, List.set_cons_succ])
        refine wpAnyH_take (i := 2) (v := .bool true) rfl (by kernel_rfl) (by kernel_rfl) (by kernel_rfl) (fun _ _ _ h => h) (Or.inl ⟨by kernel_rfl, fun w' h => by first | (go_simp; done) | (go_simp; rfl)⟩) s0 ?_
        (try simp only [Act.put, List.getElem_toArray, List.getElem_cons_succ, List.getElem_cons_zero, List.setIfInBounds_toArray, List.set_cons_zero, List.set_cons_succ])
        refine wpAnyH_take (i := 3) (v := .agg (eP p)) rfl ?qb3b ?qb3c ?qb3d (fun _ _ _ h => h) ?qb3e s0 ?qb3f
        case qb3b => kernel_rfl
        case qb3c => kernel_rfl
        case qb3d => kernel_rfl
        case qb3e => exact yields_row (by kernel_rfl) 39 (.tmp 4) rfl g4 rfl 39 (eP p) (0, 0) _ (fun w' h => (HSx.out w' h).1) Try.underlying39 rfl (infoEP HP.out)
        (try simp only [Act.put, List.getElem_toArray, List.getElem_cons_succ, List.getElem_cons_zero, List.setIfInBounds_toArray, List.set_cons_zero, List.set_cons_succ])
        refine wpAnyH_take (i := 4) (v := .slice A2 m cap2) rfl (by kernel_rfl) (by kernel_rfl) (by kernel_rfl) (fun _ _ _ h => h) (Or.inl ⟨by kernel_rfl, fun w' h => by first | (go_simp; done) | (go_simp; rfl)⟩) s0 ?_
        (try simp only [Act.put, List.getElem_toArray, List.getElem_cons_succ, List.getElem_cons_zero, List.setIfInBounds_toArray, List.set_cons_zero, List.set_cons_succ])
        refine wpAnyH_take (i := 5) (v := .int .i64 (k : Int)) rfl (by kernel_rfl) (by kernel_rfl) (by kernel_rfl) (fun _ _ _ h => h) (Or.inl ⟨by kernel_rfl, fun w' h => by first | (go_simp; done) | (go_simp; rfl)⟩) s0 ?_
        (try simp only [Act.put, List.getElem_toArray, List.getElem_cons_succ, List.getElem_cons_zero, List.setIfInBounds_toArray, List.set_cons_zero, List.set_cons_succ])
        refine wpAnyH_take (i := 6) (v := .int .i64 ((k - 1 : Nat) : Int)) rfl (by kernel_rfl) (by kernel_rfl) (by kernel_rfl) (fun _ _ _ h => h) (Or.inl ⟨by kernel_rfl, fun w' h => by first | (go_simp; done) | (go_simp; rfl)⟩) s0 ?_
        (try simp only [Act.put, List.getElem_toArray, List.getElem_cons_succ, List.getElem_cons_zero, List.setIfInBounds_toArray, List.set_cons_zero, List.set_cons_succ])
        refine wpAnyH_take (i := 7) (v := .pointer (some ⟨G2, (k - 1) * 19, none⟩)) rfl (by kernel_rfl) (by kernel_rfl) (by kernel_rfl) (fun _ _ _ h => h) (Or.inl ⟨by kernel_rfl, fun w' h => by have hf := hidx w'; first | (go_simp; done) | (go_simp; rfl)⟩) s0 ?_
        (try simp only [Act.put, List.getElem_toArray, List.getElem_cons_succ, List.getElem_cons_zero, List.setIfInBounds_toArray, List.set_cons_zero, List.set_cons_succ])
        refine wpAnyH_take (i := 8) (v := .pointer (some ⟨G2, (k - 1) * 19, none⟩)) rfl (by kernel_rfl) (by kernel_rfl) (by kernel_rfl) (fun _ _ _ h => h) (Or.inl ⟨by kernel_rfl, fun w' h => by first | (go_simp; done) | (go_simp; rfl)⟩) s0 ?_
        (try simp only [Act.put, List.getElem_toArray, List.getElem_cons_succ, List.getElem_cons_zero, List.setIfInBounds_toArray, List.set_cons_zero, List.set_cons_succ])
        refine wpAnyH_take (i := 9) (v := .agg (lP e.p).toArray) rfl ?mb9b ?mb9c ?mb9d (fun _ _ _ h => h) ?mb9e s0 ?mb9f
        case mb9b => kernel_rfl
        case mb9c => kernel_rfl
        case mb9d => kernel_rfl
        case mb9e =>
          refine yieldsIf_load_mid ?mb9g 39 (.tmp 34) ?mb9h G2 ((k - 1) * 19) ?mb9i (lP e.p) _ ?mb9j Try.underlying39 ?mb9k (infoEP HOE.out)
          case mb9g => kernel_rfl
          case mb9h => kernel_rfl
          case mb9i => kernel_rfl
          case mb9k => kernel_rfl
          case mb9j => exact fun w' h => part_pf (HSx.out w' h).2.1
        (try simp only [Act.put, List.getElem_toArray, List.getElem_cons_succ, List.getElem_cons_zero, List.setIfInBounds_toArray, List.set_cons_zero, List.set_cons_succ])
        refine held_step (i := 10) (by kernel_rfl) rfl (by kernel_rfl) (fun K hK => ?_)
        go_wp2_with (go_at_call 54; refine (ref05_Compare p e.p HP.out HOE.out w5).mono ?_; rintro r w6 ⟨rfl, hb⟩; have s1 := HSt.out _ _ s0 hb; clear hb)
        refine hK.out _ _ s1 ?_
        clear hK K
        (try simp only [Act.put, List.getElem_toArray, List.getElem_cons_succ, List.getElem_cons_zero, List.setIfInBounds_toArray, List.set_cons_zero, List.set_cons_succ])
        refine wpAnyH_take (i := 11) (v := .bool false) rfl (by kernel_rfl) (by kernel_rfl) (by kernel_rfl) (fun _ _ _ h => h) (Or.inl ⟨by kernel_rfl, fun w' h => by first | (go_simp; done) | (go_simp; rfl)⟩) s1 ?_
        (try simp only [Act.put, List.getElem_toArray, List.getElem_cons_succ, List.getElem_cons_zero, List.setIfInBounds_toArray, List.set_cons_zero, List.set_cons_succ])
        refine wpAnyH_take (i := 12) (v := .bool false) rfl (by kernel_rfl) (by kernel_rfl) (by kernel_rfl) (fun _ _ _ h => h) (Or.inl ⟨by kernel_rfl, fun w' h => by first | (go_simp; done) | (go_simp; rfl)⟩) s1 ?_
        (try simp only [Act.put, List.getElem_toArray, List.getElem_cons_succ, List.getElem_cons_zero, List.setIfInBounds_toArray, List.set_cons_zero, List.set_cons_succ])
        refine wpAnyH_done (by kernel_rfl) ?_ _
        have HX6 := Aside0.mk (HSx.out _ s1).1
        have HB6 := Aside0.mk (below_step HB4.out (HSx.out _ s1).2.2)
        clear s0 s1
        have HNS := Aside0.mk (show ∃ cur, w4.heap[G2]? = some (.cells cur 63 (0, 0)) ∧ A2 = some ⟨G2, 0, none⟩ ∧ _ ∧ (dropE l p).length ≤ cap2 from by
          rcases HG2.out with ⟨_, _, h⟩ | h
          · exact absurd h HNE.out
          · exact h)
        obtain ⟨cur, hcur, hA, hbG, hle⟩ := HNS.out
        subst hA
        have HC6 := Aside0.mk (flE_cells (rd_below HRD2.out HB6.out).at_ (ok_dropE HL.out p))
        have HKM := Aside0.mk (show k ≤ m ∧ m ≤ cap2 ∧ k ≤ cap2 ∧ m ≤ 1000 by have := HI.out; have := HM2.out; have := HML.out; omega)
        have hkc : k ≤ cap2 := HKM.out.2.2.1
        have hkm : k ≤ m := HKM.out.1
        have hmc : m ≤ cap2 := HKM.out.2.1
        have HTK := Aside0.mk (show (flE ((dropE l p).take k)).length = k * 19 by rw [flE_len (fun e he => ok_dropE HL.out p e (List.mem_of_mem_take he)), List.length_take, HM2.out, Nat.min_eq_left HKM.out.1])
        have HDK := Aside0.mk (show (flE ((dropE l p).drop k)).length = (m - k) * 19 by rw [flE_len (fun e he => ok_dropE HL.out p e (List.mem_of_mem_drop he)), List.length_drop, HM2.out])
        have HN1 := Aside0.mk (show ∀ j u, (flE ((dropE l p).take k))[j]? = some u → w6.cell? ((⟨G2, 0, none⟩ : Addr).add j) = some u by
          intro j u hj
          rw [add_plain]
          refine HC6.out j u ?_
          rw [flE_take (ok_dropE HL.out p) k (by rw [HM2.out]; exact HKM.out.1), List.getElem?_take] at hj
          split at hj
          · exact hj
          · cases hj)
        obtain ⟨A3, hA3, hsrc⟩ : ∃ A3 : Addr, (if cap2 = k then (some (⟨G2, 0, none⟩ : Addr)) else some ⟨G2, k * 19, none⟩) = some A3 ∧ ∀ t u, (flE ((dropE l p).drop k))[t]? = some u → w6.cell? (A3.add t) = some u := by
          by_cases h : cap2 = k
          · refine ⟨⟨G2, 0, none⟩, by simp [h], fun t u hu => ?_⟩
            have h0 : (flE ((dropE l p).drop k)).length = 0 := by rw [HDK.out]; have := HKM.out; omega
            rw [List.length_eq_zero_iff.1 h0] at hu
            simp at hu
          · refine ⟨⟨G2, k * 19, none⟩, by simp [h], fun t u hu => ?_⟩
            rw [Addr.add_lit]
            refine HC6.out (k * 19 + t) u ?_
            rw [flE_drop (ok_dropE HL.out p) k (by rw [HM2.out]; exact HKM.out.1)] at hu
            rwa [List.getElem?_drop] at hu
        have HN3 := Aside0.mk hsrc
        clear hsrc hcur hbG hle
        go_wp2_with (at_builtin; refine wpList_append_own _ rfl _ _ 51 rfl w6.heap.size 63 i0 (.agg (eE noE)) 19 40 Try.underlying51 hi0 hz0 hz1 hz2 (eE_size ok_noE) (by decide) _ _ _ rfl (World.ownsRow_nil _ _ _ _) ⟨G2, 0, none⟩ k cap2 (flE ((dropE l p).take k)) rfl HTK.out HN1.out (flE_one _) (by have := HKM.out; simp only [maxLen]; omega) (by have := HKM.out; omega) (Nat.le_refl _) ?_)
        intro v1 w7 hown1 hgr1 _
        (try simp only [Nat.zero_add, List.nil_append] at hown1)
        have HB7 := Aside0.mk (below_grown (Below.refl w6.heap.size w6) hgr1 (fun x hx => by cases hx) (Nat.le_refl _))
        have HX7 := Aside0.mk (blk_below HX6.out HB7.out)
        have HO7 := Aside0.mk hown1
        clear hown1 hgr1
        go_wp2_with (first
          | ((with_reducible refine gate_dst (N := 47) rfl ?_); refine wpList_load_row rfl 39 (.tmp 4) rfl g4 rfl 39 (eP p) (0, 0) _ HX7.out Try.underlying39 rfl (infoEP HP.out) ?_)
          | ((with_reducible refine gate_dst (N := 49) rfl ?_); refine wpList_buildTo rfl 63 _ rfl _ rfl (eE ⟨p, v⟩) ?hbbb ?_; (case hbbb => rw [List.map_toArray]; exact built_er HP.out v))
          | ((with_reducible refine gate_dst (N := 50) rfl ?_); refine wp_lit_er rfl (.tmp 49) rfl ⟨p, v⟩ HP.out rfl ?_; intro vb w8 hvb hb8; have HO8 := Aside0.mk (own_below HO7.out hb8); have HV8 := Aside0.mk (val_at hvb); have HB8 := Aside0.mk (below_step HB7.out hb8); clear hvb hb8)
          | (at_builtin; refine wpList_append_own _ rfl _ _ 51 rfl w6.heap.size 63 i0 (.agg (eE noE)) 19 40 Try.underlying51 hi0 hz0 hz1 hz2 (eE_size ok_noE) (by decide) _ _ _ rfl HO8.out ⟨vb, 0, none⟩ 1 1 (lE ⟨p, v⟩) rfl (by rw [lE_len (e := ⟨p, v⟩) HP.out]) HV8.out (lE_one _) (by have := HKM.out; simp only [maxLen]; omega) (by have := HKM.out; omega) (below_size HB8.out) ?_))
        intro v2 w9 hown2 hgr2 _
        have HB9 := Aside0.mk (below_grown HB8.out hgr2 (fun x hx => (HO8.out.lt x hx).1) (Nat.le_refl _))
        have HO9 := Aside0.mk hown2
        have HN9 := Aside0.mk (show ∀ t u, (flE ((dropE l p).drop k))[t]? = some u → w9.cell? (A3.add t) = some u from fun t u hu => cell_below (HN3.out t u hu) HB9.out)
        clear hown2 hgr2
        go_wp2_with (at_builtin; refine wpList_append_own _ rfl _ _ 51 rfl w6.heap.size 63 i0 (.agg (eE noE)) 19 40 Try.underlying51 hi0 hz0 hz1 hz2 (eE_size ok_noE) (by decide) _ _ _ rfl HO9.out A3 (m - k) (cap2 - k) (flE ((dropE l p).drop k)) rfl HDK.out HN9.out (flE_one _) (by have := HKM.out; simp only [maxLen]; omega) (by have := HKM.out; omega) (below_size HB9.out) ?_)
        intro v3 w10 hown3 hgr3 _
        have HB10 := Aside0.mk (below_grown HB9.out hgr3 (fun x hx => (HO9.out.lt x hx).1) (Nat.le_refl _))
        have HO10 := Aside0.mk hown3
        clear hown3 hgr3
        go_wp2
        go_ret2
        have hbw := below_step HB.out (below_step HB6.out HB10.out)
        refine ⟨v3, rfl, ?_, hbw⟩
        have hlen : (setE l p v).length = k + 1 + (m - k) := by rw [← HPA.out, List.length_append, List.length_cons, List.length_take, List.length_drop, HM2.out, Nat.min_eq_left HKM.out.1]; omega
        have hfl : flE (setE l p v) = flE ((dropE l p).take k) ++ lE ⟨p, v⟩ ++ flE ((dropE l p).drop k) := by rw [← HPA.out, flE_append, flE_cons, List.append_assoc]
        have hown4 := HO10.out
        (try rw [List.append_assoc] at hown4)
        rw [hlen, hfl, List.append_assoc]
        exact own_less hown4 (below_size (below_step HB.out HB6.out))
    · have c0 : decide ((0 : Int) < (k : Int)) = false := decide_eq_false (by omega)
      have c1 : decide (0 < k) = false := decide_eq_false hk0
      have HKZ := Aside0.mk (show k = 0 by omega)
      have HPA := Aside0.mk (set_parts HL.out HS.out HP.out (k := k) (by omega) HJ.out (fun x h _ => absurd h hk0) v)
      clear hk0
      go_wp2
      obtain ⟨S, hS⟩ : ∃ S : World → Prop, S = fun w' => w'.heap[g4]? = some (.cells (eP p) 39 (0, 0)) ∧ Below wr.heap.size wr w' := ⟨_, rfl⟩
      have HSx := Aside0.mk (show ∀ x : World, S x → x.heap[g4]? = some (.cells (eP p) 39 (0, 0)) ∧ Below wr.heap.size wr x by intro b h; rw [hS] at h; exact h)
      have s0 : S wr.drew := by rw [hS]; exact ⟨blk_later HX.out, bel_later (Below.refl _ _)⟩
      clear hS
      refine wp_region_held_drew (S := S) (by kernel_rfl) s0 (fun _ => ?_)
      refine anyH_world s0 (fun w6 s5 => ?_)
      clear s0
      have s0 := s5
      clear s5
      refine wpAnyH_take (i := 0) (v := .int .i64 (k : Int)) rfl (by kernel_rfl) (by kernel_rfl) (by kernel_rfl) (fun _ _ _ h => h) (Or.inl ⟨by kernel_rfl, fun w' h => by first | (go_simp; done) | (go_simp; rfl)⟩) s0 ?_
      (try simp only [Act.put, List.getElem_toArray, List.getElem_cons_succ, List.getElem_cons_zero, List.setIfInBounds_toArray, List.set_cons_zero, List.set_cons_succ])
      refine wpAnyH_take (i := 1) (v := .bool false) rfl (by kernel_rfl) (by kernel_rfl) (by kernel_rfl) (fun _ _ _ h => h) (Or.inl ⟨by kernel_rfl, fun w' h => by first | (go_simp; done) | (go_simp; rfl)⟩) s0 ?_
      (try simp only [Act.put, List.getElem_toArray, List.getElem_cons_succ, List.getElem_cons_zero, List.setIfInBounds_toArray, List.set_cons_zero, List.set_cons_succ])
      refine wpAnyH_take (i := 2) (v := .bool false) rfl (by kernel_rfl) (by kernel_rfl) (by kernel_rfl) (fun _ _ _ h => h) (Or.inl ⟨by kernel_rfl, fun w' h => by first | (go_simp; done) | (go_simp; rfl)⟩) s0 ?_
      (try simp only [Act.put, List.getElem_toArray, List.getElem_cons_succ, List.getElem_cons_zero, List.setIfInBounds_toArray, List.set_cons_zero, List.set_cons_succ])
      refine wpAnyH_take (i := 3) (v := undef) rfl (by kernel_rfl) (by kernel_rfl) (by kernel_rfl) (fun _ _ _ h => h) (Or.inr ⟨by kernel_rfl, rfl⟩) s0 ?_
      (try simp only [Act.put, List.getElem_toArray, List.getElem_cons_succ, List.getElem_cons_zero, List.setIfInBounds_toArray, List.set_cons_zero, List.set_cons_succ])
      refine wpAnyH_take (i := 4) (v := undef) rfl (by kernel_rfl) (by kernel_rfl) (by kernel_rfl) (fun _ _ _ h => h) (Or.inr ⟨by kernel_rfl, rfl⟩) s0 ?_
      (try simp only [Act.put, List.getElem_toArray, List.getElem_cons_succ, List.getElem_cons_zero, List.setIfInBounds_toArray, List.set_cons_zero, List.set_cons_succ])
      refine wpAnyH_take (i := 5) (v := undef) rfl (by kernel_rfl) (by kernel_rfl) (by kernel_rfl) (fun _ _ _ h => h) (Or.inr ⟨by kernel_rfl, rfl⟩) s0 ?_
      (try simp only [Act.put, List.getElem_toArray, List.getElem_cons_succ, List.getElem_cons_zero, List.setIfInBounds_toArray, List.set_cons_zero, List.set_cons_succ])
      refine wpAnyH_take (i := 6) (v := undef) rfl (by kernel_rfl) (by kernel_rfl) (by kernel_rfl) (fun _ _ _ h => h) (Or.inr ⟨by kernel_rfl, rfl⟩) s0 ?_
      (try simp only [Act.put, List.getElem_toArray, List.getElem_cons_succ, List.getElem_cons_zero, List.setIfInBounds_toArray, List.set_cons_zero, List.set_cons_succ])
      refine wpAnyH_take (i := 7) (v := undef) rfl (by kernel_rfl) (by kernel_rfl) (by kernel_rfl) (fun _ _ _ h => h) (Or.inr ⟨by kernel_rfl, rfl⟩) s0 ?_
      (try simp only [Act.put, List.getElem_toArray, List.getElem_cons_succ, List.getElem_cons_zero, List.setIfInBounds_toArray, List.set_cons_zero, List.set_cons_succ])
      refine wpAnyH_take (i := 8) (v := undef) rfl (by kernel_rfl) (by kernel_rfl) (by kernel_rfl) (fun _ _ _ h => h) (Or.inr ⟨by kernel_rfl, rfl⟩) s0 ?_
      (try simp only [Act.put, List.getElem_toArray, List.getElem_cons_succ, List.getElem_cons_zero, List.setIfInBounds_toArray, List.set_cons_zero, List.set_cons_succ])
      refine wpAnyH_take (i := 9) (v := undef) rfl (by kernel_rfl) (by kernel_rfl) (by kernel_rfl) (fun _ _ _ h => h) (Or.inr ⟨by kernel_rfl, rfl⟩) s0 ?_
      (try simp only [Act.put, List.getElem_toArray, List.getElem_cons_succ, List.getElem_cons_zero, List.setIfInBounds_toArray, List.set_cons_zero, List.set_cons_succ])
      refine wpAnyH_take (i := 10) (v := undef) rfl (by kernel_rfl) (by kernel_rfl) (by kernel_rfl) (fun _ _ _ h => h) (Or.inr ⟨by kernel_rfl, rfl⟩) s0 ?_
      (try simp only [Act.put, List.getElem_toArray, List.getElem_cons_succ, List.getElem_cons_zero, List.setIfInBounds_toArray, List.set_cons_zero, List.set_cons_succ])
      refine wpAnyH_take (i := 11) (v := undef) rfl (by kernel_rfl) (by kernel_rfl) (by kernel_rfl) (fun _ _ _ h => h) (Or.inr ⟨by kernel_rfl, rfl⟩) s0 ?_
      (try simp only [Act.put, List.getElem_toArray, List.getElem_cons_succ, List.getElem_cons_zero, List.setIfInBounds_toArray, List.set_cons_zero, List.set_cons_succ])
      refine wpAnyH_take (i := 12) (v := .bool false) rfl (by kernel_rfl) (by kernel_rfl) (by kernel_rfl) (fun _ _ _ h => h) (Or.inl ⟨by kernel_rfl, fun w' h => by first | (go_simp; done) | (go_simp; rfl)⟩) s0 ?_
      (try simp only [Act.put, List.getElem_toArray, List.getElem_cons_succ, List.getElem_cons_zero, List.setIfInBounds_toArray, List.set_cons_zero, List.set_cons_succ])
      refine wpAnyH_done (by kernel_rfl) ?_ _
      have HX6 := Aside0.mk (HSx.out _ s0).1
      have HB6 := Aside0.mk (below_step HB4.out (HSx.out _ s0).2)
      clear s0
      rcases HG2.out with ⟨hA, hc2, hR⟩ | hsome
      · subst hA
        subst hc2
        have hm0 : m = 0 := by rw [← HM2.out, hR]; rfl
        have hk00 := HKZ.out
        subst hk00
        subst hm0
        have HRE := Aside0.mk hR
        clear hR
        have HTE := Aside0.mk (show setE l p v = [⟨p, v⟩] by rw [← HPA.out, HRE.out]; rfl)
        go_wp2_with (first
          | (at_builtin; refine wpList_append_own_none rfl _ _ 51 rfl w6.heap.size 63 i0 19 Try.underlying51 hi0 _ 0 [] rfl (World.ownsRow_nil _ _ _ _) rfl ?_)
          | ((with_reducible refine gate_dst (N := 47) rfl ?_); refine wpList_load_row rfl 39 (.tmp 4) rfl g4 rfl 39 (eP p) (0, 0) _ HX6.out Try.underlying39 rfl (infoEP HP.out) ?_)
          | ((with_reducible refine gate_dst (N := 49) rfl ?_); refine wpList_buildTo rfl 63 _ rfl _ rfl (eE ⟨p, v⟩) ?hbb_n ?_; (case hbb_n => rw [List.map_toArray]; exact built_er HP.out v))
          | ((with_reducible refine gate_dst (N := 50) rfl ?_); refine wp_lit_er rfl (.tmp 49) rfl ⟨p, v⟩ HP.out rfl ?_; intro vb w8 hvb hb8; have HV8 := Aside0.mk (val_at hvb); have HB8 := Aside0.mk hb8; clear hvb hb8)
          | (at_builtin; refine wpList_append_own _ rfl _ _ 51 rfl w6.heap.size 63 i0 (.agg (eE noE)) 19 40 Try.underlying51 hi0 hz0 hz1 hz2 (eE_size ok_noE) (by decide) _ _ _ rfl (World.ownsRow_nil _ _ _ _) ⟨vb, 0, none⟩ 1 1 (lE ⟨p, v⟩) rfl (by rw [lE_len (e := ⟨p, v⟩) HP.out]) HV8.out (lE_one _) (by decide) (by decide) (below_size HB8.out) ?_))
        intro v2 w9 hown2 hgr2 _
        have HB9 := Aside0.mk (below_grown HB8.out hgr2 (fun x hx => by cases hx) (Nat.le_refl _))
        have HO9 := Aside0.mk hown2
        clear hown2 hgr2
        go_wp2_with (at_builtin; refine wpList_append_own_none rfl _ _ 51 rfl w6.heap.size 63 i0 19 Try.underlying51 hi0 _ _ _ rfl HO9.out rfl ?_)
        go_wp2
        go_ret2
        have hbw := below_step HB.out (below_step HB6.out HB9.out)
        refine ⟨v2, rfl, ?_, hbw⟩
        rw [HTE.out]
        have hf : flE [(⟨p, v⟩ : En)] = [] ++ lE ⟨p, v⟩ := by
          show lE ⟨p, v⟩ ++ [] = _
          simp
        rw [hf]
        exact own_less HO9.out (below_size (below_step HB.out HB6.out))
      · have HNS := Aside0.mk hsome
        clear hsome
        obtain ⟨cur, hcur, hA, hbG, hle⟩ := HNS.out
        subst hA
        have HC6 := Aside0.mk (flE_cells (rd_below HRD2.out HB6.out).at_ (ok_dropE HL.out p))
        have HKM := Aside0.mk (show k ≤ m ∧ m ≤ cap2 ∧ k ≤ cap2 ∧ m ≤ 1000 by have := HI.out; have := HM2.out; have := HML.out; omega)
        have hkc : k ≤ cap2 := HKM.out.2.2.1
        have hkm : k ≤ m := HKM.out.1
        have hmc : m ≤ cap2 := HKM.out.2.1
        have HTK := Aside0.mk (show (flE ((dropE l p).take k)).length = k * 19 by rw [flE_len (fun e he => ok_dropE HL.out p e (List.mem_of_mem_take he)), List.length_take, HM2.out, Nat.min_eq_left HKM.out.1])
        have HDK := Aside0.mk (show (flE ((dropE l p).drop k)).length = (m - k) * 19 by rw [flE_len (fun e he => ok_dropE HL.out p e (List.mem_of_mem_drop he)), List.length_drop, HM2.out])
        have HN1 := Aside0.mk (show ∀ j u, (flE ((dropE l p).take k))[j]? = some u → w6.cell? ((⟨G2, 0, none⟩ : Addr).add j) = some u by
          intro j u hj
          rw [add_plain]
          refine HC6.out j u ?_
          rw [flE_take (ok_dropE HL.out p) k (by rw [HM2.out]; exact HKM.out.1), List.getElem?_take] at hj
          split at hj
          · exact hj
          · cases hj)
        obtain ⟨A3, hA3, hsrc⟩ : ∃ A3 : Addr, (if cap2 = k then (some (⟨G2, 0, none⟩ : Addr)) else some ⟨G2, k * 19, none⟩) = some A3 ∧ ∀ t u, (flE ((dropE l p).drop k))[t]? = some u → w6.cell? (A3.add t) = some u := by
          by_cases h : cap2 = k
          · refine ⟨⟨G2, 0, none⟩, by simp [h], fun t u hu => ?_⟩
            have h0 : (flE ((dropE l p).drop k)).length = 0 := by rw [HDK.out]; have := HKM.out; omega
            rw [List.length_eq_zero_iff.1 h0] at hu
            simp at hu
          · refine ⟨⟨G2, k * 19, none⟩, by simp [h], fun t u hu => ?_⟩
            rw [Addr.add_lit]
            refine HC6.out (k * 19 + t) u ?_
            rw [flE_drop (ok_dropE HL.out p) k (by rw [HM2.out]; exact HKM.out.1)] at hu
            rwa [List.getElem?_drop] at hu
        have HN3 := Aside0.mk hsrc
        clear hsrc hcur hbG hle
        go_wp2_with (at_builtin; refine wpList_append_own _ rfl _ _ 51 rfl w6.heap.size 63 i0 (.agg (eE noE)) 19 40 Try.underlying51 hi0 hz0 hz1 hz2 (eE_size ok_noE) (by decide) _ _ _ rfl (World.ownsRow_nil _ _ _ _) ⟨G2, 0, none⟩ k cap2 (flE ((dropE l p).take k)) rfl HTK.out HN1.out (flE_one _) (by have := HKM.out; simp only [maxLen]; omega) (by have := HKM.out; omega) (Nat.le_refl _) ?_)
        intro v1 w7 hown1 hgr1 _
        (try simp only [Nat.zero_add, List.nil_append] at hown1)
        have HB7 := Aside0.mk (below_grown (Below.refl w6.heap.size w6) hgr1 (fun x hx => by cases hx) (Nat.le_refl _))
        have HX7 := Aside0.mk (blk_below HX6.out HB7.out)
        have HO7 := Aside0.mk hown1
        clear hown1 hgr1
        go_wp2_with (first
          | ((with_reducible refine gate_dst (N := 47) rfl ?_); refine wpList_load_row rfl 39 (.tmp 4) rfl g4 rfl 39 (eP p) (0, 0) _ HX7.out Try.underlying39 rfl (infoEP HP.out) ?_)
          | ((with_reducible refine gate_dst (N := 49) rfl ?_); refine wpList_buildTo rfl 63 _ rfl _ rfl (eE ⟨p, v⟩) ?hbbz ?_; (case hbbz => rw [List.map_toArray]; exact built_er HP.out v))
          | ((with_reducible refine gate_dst (N := 50) rfl ?_); refine wp_lit_er rfl (.tmp 49) rfl ⟨p, v⟩ HP.out rfl ?_; intro vb w8 hvb hb8; have HO8 := Aside0.mk (own_below HO7.out hb8); have HV8 := Aside0.mk (val_at hvb); have HB8 := Aside0.mk (below_step HB7.out hb8); clear hvb hb8)
          | (at_builtin; refine wpList_append_own _ rfl _ _ 51 rfl w6.heap.size 63 i0 (.agg (eE noE)) 19 40 Try.underlying51 hi0 hz0 hz1 hz2 (eE_size ok_noE) (by decide) _ _ _ rfl HO8.out ⟨vb, 0, none⟩ 1 1 (lE ⟨p, v⟩) rfl (by rw [lE_len (e := ⟨p, v⟩) HP.out]) HV8.out (lE_one _) (by have := HKM.out; simp only [maxLen]; omega) (by have := HKM.out; omega) (below_size HB8.out) ?_))
        intro v2 w9 hown2 hgr2 _
        have HB9 := Aside0.mk (below_grown HB8.out hgr2 (fun x hx => (HO8.out.lt x hx).1) (Nat.le_refl _))
        have HO9 := Aside0.mk hown2
        have HN9 := Aside0.mk (show ∀ t u, (flE ((dropE l p).drop k))[t]? = some u → w9.cell? (A3.add t) = some u from fun t u hu => cell_below (HN3.out t u hu) HB9.out)
        clear hown2 hgr2
        go_wp2_with (at_builtin; refine wpList_append_own _ rfl _ _ 51 rfl w6.heap.size 63 i0 (.agg (eE noE)) 19 40 Try.underlying51 hi0 hz0 hz1 hz2 (eE_size ok_noE) (by decide) _ _ _ rfl HO9.out A3 (m - k) (cap2 - k) (flE ((dropE l p).drop k)) rfl HDK.out HN9.out (flE_one _) (by have := HKM.out; simp only [maxLen]; omega) (by have := HKM.out; omega) (below_size HB9.out) ?_)
        intro v3 w10 hown3 hgr3 _
        have HB10 := Aside0.mk (below_grown HB9.out hgr3 (fun x hx => (HO9.out.lt x hx).1) (Nat.le_refl _))
        have HO10 := Aside0.mk hown3
        clear hown3 hgr3
        go_wp2
        go_ret2
        have hbw := below_step HB.out (below_step HB6.out HB10.out)
        refine ⟨v3, rfl, ?_, hbw⟩
        have hlen : (setE l p v).length = k + 1 + (m - k) := by rw [← HPA.out, List.length_append, List.length_cons, List.length_take, List.length_drop, HM2.out, Nat.min_eq_left HKM.out.1]; omega
        have hfl : flE (setE l p v) = flE ((dropE l p).take k) ++ lE ⟨p, v⟩ ++ flE ((dropE l p).drop k) := by rw [← HPA.out, flE_append, flE_cons, List.append_assoc]
        have hown4 := HO10.out
        (try rw [List.append_assoc] at hown4)
        rw [hlen, hfl, List.append_assoc]
        exact own_less hown4 (below_size (below_step HB.out HB6.out))
def longer : Option En → En → Bool
  | none, _ => true
  | some b, e => decide (b.p.n < e.p.n)
end Go.Proofs.Ythjhbhgfckaklaa.P
end
