/-
  Law PolicySpaces.
-/
import Derived.Test.YthdognlkacjkhaaGreatDoorPolE
namespace Go.Proofs.YthdognlkacjkhaaGreatDoor.P
open Go.RowKit Go.Proofs.YthdognlkacjkhaaGreatDoorW.PrintWords Go.Proofs.YthdognlkacjkhaaGreatDoorW.PrintLast Go.Proofs.YthdognlkacjkhaaGreatDoorW.PrintMore
set_option linter.unusedVariables false
set_option linter.unusedSimpArgs false
theorem row_typed {w : World} {base n sz g : Nat} {te : TypeId} {v : Value} {xs : List Value} (h : w.ownsRow base te sz v n xs) (hg : v.ownBlock = some g) : ∃ cur, w.heap[g]? = some (.cells cur te (0, 0)) := by
  rcases h.2 with ⟨rfl, _⟩ | ⟨g', cap, cur, rfl, hb, hgg, _⟩
  · cases hg
  · have e : g' = g := Option.some.inj hg
    subst e
    exact ⟨cur, hgg⟩
theorem row_slice {w : World} {base n sz : Nat} {te : TypeId} {v : Value} {xs : List Value} (h : w.ownsRow base te sz v n xs) : ∃ (A : Option Addr) (c : Nat), v = .slice A n c ∧ (0 < n → ∃ g, A = some ⟨g, 0, none⟩) := by
  rcases h.2 with ⟨rfl, hn⟩ | ⟨g', cap, cur, rfl, _⟩
  · subst hn
    exact ⟨none, 0, rfl, fun h => absurd h (Nat.lt_irrefl 0)⟩
  · exact ⟨some ⟨g', 0, none⟩, cap, rfl, fun _ => ⟨g', rfl⟩⟩
theorem own_grow {w w' : World} {base n sz B n2 sz2 : Nat} {te te2 : TypeId} {v v2 : Value} {xs xs2 : List Value} (h : w.ownsRow base te sz v n xs) (ho : w.ownsRow B te2 sz2 v2 n2 xs2) (hg : w.grownBy w' v2.ownBlock) (ht : te ≠ te2) : w'.ownsRow base te sz v n xs :=
  own_keep_any h fun g hh => hg.block g (h.lt g hh).2 (fun e => by obtain ⟨cur, hc⟩ := row_typed h hh; exact own_ne_any ho hc ht e.symm)
theorem mp_grow {w w' : World} {M T base B n2 sz2 : Nat} {st : Int} {sv v2 : Value} {l : List En} {xs2 : List Value} (h : Mp w M T base st sv l) (ho : w.ownsRow B 30 sz2 v2 n2 xs2) (hg : w.grownBy w' v2.ownBlock) : Mp w' M T base st sv l :=
  mp_keep h fun g hlt hh => hg.block g hlt (fun e => by
    rcases hh with rfl | rfl | hh
    · exact own_ne_any ho h.blk (by decide) e.symm
    · exact own_ne_any ho h.tb.blk (by decide) e.symm
    · obtain ⟨cur, hc⟩ := row_typed h.tb.row hh
      exact own_ne_any ho hc (by decide) e.symm)
def gdS (L : List Ad) : List Ad := L.map goodA
theorem gdS_snoc {L : List Ad} {i : Nat} {d : Ad} (h : L[i]? = some d) : gdS (L.take (i + 1)) = gdS (L.take i) ++ [goodA d] := by
  unfold gdS
  rw [List.take_add_one, h, List.map_append]
  rfl
theorem gdS_ok {L : List Ad} (h : okA L) : okA (gdS L) := fun a ha => by
  obtain ⟨d, hd, rfl⟩ := List.mem_map.1 ha
  exact ok_goodA (h d hd)
set_option maxHeartbeats 16000000 in
set_option maxRecDepth 100000 in
theorem law_PSpaces (A : Option Addr) (n cap : Nat) (L : List Ad) (A2 : Option Addr) (n2 cap2 : Nat) (Le : List En) (w : World) (hmx : MaxIs w) (hra : RdA w A n cap L) (hrd : RdT w A2 n2 cap2 Le) :
    Calls Tryz.prog 3 #[.slice A n cap, .slice A2 n2 cap2] w fun r w' => r = .returned (.bool true) ∧ Below w.heap.size w w' := by
  have HB := Aside0.mk (Below.refl w.heap.size w)
  have HMX := Aside0.mk hmx
  have HRA := Aside0.mk hra
  have HRD := Aside0.mk hrd
  have HLL := Aside0.mk hra.len
  have HOL := Aside0.mk (show okA L from fun x hx => by
    obtain ⟨i, hi⟩ := List.getElem?_of_mem hx
    obtain ⟨_, _, _, _, h⟩ := hra.at_ i x hi
    exact h)
  have HFL := Aside0.mk (show Fine (mkS (Le.take 6)) (11 + (Le.take 6).length) from fine_mkS _ fun x hx => by
    obtain ⟨i, hi⟩ := List.getElem?_of_mem (List.mem_of_mem_take hx)
    obtain ⟨_, _, _, _, h⟩ := hrd.at_ i x hi
    exact h)
  have HL17 := Aside0.mk (show (mkS (Le.take 6)).length ≤ 17 by have h1 := HFL.out.len; have h2 : (Le.take 6).length ≤ 6 := (by rw [List.length_take]; exact Nat.min_le_left _ _); omega)
  obtain ⟨l, hl⟩ : ∃ l, mkS (Le.take 6) = l := ⟨_, rfl⟩
  obtain ⟨kl, hkl⟩ : ∃ k, 11 + (Le.take 6).length = k := ⟨_, rfl⟩
  rw [hl, hkl] at HFL
  rw [hl] at HL17
  have HL := Aside0.mk hl
  obtain ⟨iA, hiA, hzA0, hzA1, hzA2⟩ := info_parts info_Ad
  clear hmx hra hrd hl hkl
  go_enter Tryz.func3, Tryz.ntmps3
  go_wp2_with (first
    | (go_at_call 4; refine (law16_maps A2 n2 cap2 Le _ (maxis_below HMX.out HB.out) HRD.out).mono ?_; rintro r w1 ⟨M, T, sv, u, rfl, hz, hm, ho, hb⟩; rw [HL.out] at hm ho; have HLT := Aside0.mk hz; have HM := Aside0.mk hm; have HOW := Aside0.mk ho; replace HB := Aside0.mk (below_step HB.out hb); clear hb hm ho hz))
  go_loopw [7, 8] (fun v7 v8 wr => ∃ (i : Nat) (q : Value), q = v7 ∧ v8 = .int .i64 (i : Int) ∧ Aside0 (i ≤ n ∧ i ≤ 10) ∧ Aside0 (wr.ownsRow w.heap.size 30 17 q i (flA (gdS (L.take i)))) ∧ Aside0 (Mp wr M T T ((0 : Nat) : Int) sv l) ∧ Aside0 (Ow wr u l) ∧ Aside0 (Below w.heap.size w wr)) (fun _ v8 _ => 10 - (intOf v8).toNat)
  case atStart => exact ⟨0, _, rfl, rfl, ⟨Nat.zero_le _, Nat.zero_le _⟩, ⟨World.ownsRow_nil _ _ _ _⟩, HM, HOW, HB⟩
  case round =>
    clear HM HOW HB
    obtain ⟨i, q, rfl, rfl, HI, HQ, HM, HOW, HB⟩ := hrel
    by_cases hi : i < n ∧ i < 10
    · have e0 : decide ((i : Int) < (n : Int)) = true := decide_eq_true (by omega)
      have e0n : decide (i < n) = true := decide_eq_true hi.1
      have e1 : decide ((i : Int) < 10) = true := decide_eq_true (by omega)
      have e1n : decide (i < 10) = true := decide_eq_true hi.2
      have HI2 := Aside0.mk hi
      obtain ⟨d, hd⟩ : ∃ d, L[i]? = some d := ⟨L[i]'(by have := HLL.out; omega), List.getElem?_eq_getElem _⟩
      obtain ⟨G, o, hix, hrg, hdok⟩ := HRA.out.at_ i d hd
      have HRG := Aside0.mk (range_below hrg HB.out)
      have HDO := Aside0.mk hdok
      have HGO := Aside0.mk (ok_goodA hdok)
      have HGD := Aside0.mk (fun w => ref04_Good d hdok w)
      have HSN := Aside0.mk (show flA (gdS (L.take (i + 1))) = flA (gdS (L.take i)) ++ lA (goodA d) by rw [gdS_snoc hd, flA_append]; unfold flA; simp)
      obtain ⟨g, hg⟩ : ∃ g, goodA d = g := ⟨_, rfl⟩
      rw [hg] at HGO HGD HSN
      have E1 := Aside0.mk (wrap_up6 i (by omega))
      clear hd hrg hdok hi hg
      go_wp2_with (first
        | ((with_reducible refine gate_dst (N := 32) rfl ?_); refine wpList_load_mid rfl 30 (.tmp 31) rfl G o rfl (lA d) _ HRG.out Tryz.underlying30 rfl (infoAd_len HDO.out) ?_)
        | (go_at_call 5; refine (HGD.out _).mono ?_; rintro r w2 ⟨rfl, hb⟩; replace HQ := Aside0.mk (own_below_any HQ.out hb); replace HM := Aside0.mk (mp_below HM.out hb); replace HOW := Aside0.mk (ow_below HOW.out hb); replace HB := Aside0.mk (below_step HB.out hb); clear hb)
        | ((with_reducible refine gate_dst (N := 34) rfl ?_); refine wp_lit_ad rfl (.tmp 33) rfl g HGO.out rfl ?_; intro vb w5 hvb hb; have HV := Aside0.mk (val_ad hvb); replace HQ := Aside0.mk (own_below_any HQ.out hb); replace HM := Aside0.mk (mp_below HM.out hb); replace HOW := Aside0.mk (ow_below HOW.out hb); replace HB := Aside0.mk (below_step HB.out hb); clear hvb hb)
        | (at_builtin; refine wpList_append_own _ rfl _ _ 22 rfl w.heap.size 30 iA (.agg (eA noA)) 17 24 Tryz.underlying22 hiA hzA0 hzA1 hzA2 (eA_size ok_noA) (by decide) _ _ _ rfl HQ.out ⟨vb, 0, none⟩ 1 1 (lA g) rfl (by rw [lA_len HGO.out]) HV.out (lA_one g) (by have := HI2.out; simp only [maxLen]; omega) (by have := HI2.out; omega) HB.out.size ?_))
      intro v' w7 hown hgrow hnil
      have HQ7 := Aside0.mk hown
      have HM7 := Aside0.mk (mp_grow HM.out HQ.out hgrow)
      have HO7 := Aside0.mk (own_grow HOW.out HQ.out hgrow (by decide))
      have HB7 := Aside0.mk (below_grown HB.out hgrow (fun k hk => (HQ.out.lt k hk).1) (Nat.le_refl _))
      clear hown hgrow hnil
      go_wp2
      go_roundw
      case rel => exact ⟨i + 1, _, rfl, by first | rfl | exact congrArg (Value.int .i64) E1.out | exact congrArg (Value.int .i64) (by omega), ⟨by have := HI2.out; omega⟩, ⟨by rw [HSN.out]; exact HQ7.out⟩, HM7, HO7, HB7⟩
      case measure => have := HI2.out; exact measure_up 10 i _ (by first | rfl | exact E1.out | omega) (by omega)
    · have e2 : i < n ∧ ¬ i < 10 ∨ ¬ i < n := by omega
      have HK := Aside0.mk (show (gdS (L.take i)).length = i by unfold gdS; rw [List.length_map, List.length_take]; have := HI.out; have := HLL.out; omega)
      have HOK := Aside0.mk (show okA (gdS (L.take i)) from gdS_ok fun x hx => HOL.out x (List.mem_of_mem_take hx))
      have HMAY := Aside0.mk (show ∀ x ∈ gdS (L.take i), mayA x = true ∧ x.fam ≠ 0 from fun x hx => by
        obtain ⟨d, hd, rfl⟩ := List.mem_map.1 hx
        exact goodA_may (HOL.out d (List.mem_of_mem_take hd)))
      obtain ⟨Lg, hLg⟩ : ∃ Lg, gdS (L.take i) = Lg := ⟨_, rfl⟩
      rw [hLg] at HK HOK HMAY HQ
      obtain ⟨Aq, cq, hq, hraq⟩ := rdA_of_own (l := Lg) (by rw [HK.out]; exact HQ.out) HOK.out
      rw [HK.out] at hq
      subst hq
      have HI10 := Aside0.mk HI.out.2
      clear hi hLg hraq HRA HRD HLL HOL HI
      rcases e2 with ⟨h1, h2⟩ | h1
      · have f0 : decide ((i : Int) < (n : Int)) = true := decide_eq_true (by omega)
        have f0n : decide (i < n) = true := decide_eq_true h1
        have f1 : decide ((i : Int) < 10) = false := decide_eq_false (by omega)
        have f1n : decide (i < 10) = false := decide_eq_false h2
        clear h1 h2
        go_wp2_with (first
          | (go_at_call 6; refine (policy_Spaces M T T w.heap.size sv l kl HFL.out HL17.out Aq i cq Lg HOK.out HK.out HI10.out _ HM.out HQ.out).mono ?_; rintro r w8 ⟨vs, st, rfl, hs, htk⟩; replace HQ := Aside0.mk (own_ticks_any HQ.out htk (own_ne_any HQ.out HM.out.tb.blk (by decide))); replace HOW := Aside0.mk (ow_ticks HM.out.tb HOW.out htk); replace HB := Aside0.mk (ticks_new HB.out htk HLT.out (Nat.le_refl _)); have HS := Aside0.mk hs; obtain ⟨As, cs, hvs, hform⟩ := row_slice HS.out; subst hvs; have HFO := Aside0.mk hform; clear hs htk HM hform))
        obtain ⟨Bs, hBs⟩ : ∃ Bs, w8.heap.size = Bs := ⟨_, rfl⟩
        obtain ⟨Bi, hs0⟩ : ∃ Bi, w8.ownsRow Bi 3 1 (.slice As i cs) i (spV l Lg) := ⟨_, HS.out⟩
        replace HS := Aside0.mk hs0
        clear hs0 hBs
        go_loopw [10] (fun v10 wr => ∃ (j : Nat), v10 = .int .i64 (j : Int) ∧ Aside0 (j ≤ i) ∧ Aside0 (wr.ownsRow Bi 3 1 (.slice As i cs) i (spV l Lg)) ∧ Aside0 (wr.ownsRow w.heap.size 30 17 (.slice Aq i cq) i (flA Lg)) ∧ Aside0 (Ow wr u l) ∧ Aside0 (Below w.heap.size w wr)) (fun v10 _ => i - (intOf v10).toNat)
        case atStart => exact ⟨0, rfl, ⟨Nat.zero_le _⟩, HS, HQ, HOW, HB⟩
        case round =>
          clear HS HQ HOW HB
          obtain ⟨j, rfl, HJ, HS, HQ, HOW, HB⟩ := hrel
          by_cases hj : j < i
          · have g0 : decide ((j : Int) < (i : Int)) = true := decide_eq_true (by omega)
            have g0n : decide (j < i) = true := decide_eq_true hj
            obtain ⟨d, hd⟩ : ∃ d, Lg[j]? = some d := ⟨Lg[j]'(by have := HK.out; omega), List.getElem?_eq_getElem _⟩
            obtain ⟨A', c', hsl, hra⟩ := rdA_of_own (l := Lg) (by rw [HK.out]; exact HQ.out) HOK.out
            rw [HK.out] at hsl hra
            injection hsl with hs1 hs2 hs3
            subst hs1 hs3
            obtain ⟨G, o, hix, hrg, hdok⟩ := hra.at_ j d hd
            obtain ⟨gs, hgs⟩ := HFO.out (by omega)
            subst hgs
            have hxs := fun w => idx_int gs i cs j w hj
            obtain ⟨z, hz⟩ : ∃ z, spOf l d = z := ⟨_, rfl⟩
            have hcell : wr.rangeAt gs j [.int .i64 z] := fun t v hv => by
              have ht : t = 0 := by rcases t with _ | t; rfl; simp at hv
              subst ht
              have hv' : Value.int .i64 z = v := by simpa using hv
              subst hv'
              have := HS.out.cells (g := gs) rfl j (.int .i64 z) (by unfold spV; rw [List.getElem?_map, hd, ← hz]; rfl)
              rwa [add_plain] at this
            have HDO := Aside0.mk hdok
            have HRF := Aside0.mk (fun (w : World) (ho : Ow w u l) => ref07_Of u l kl HFL.out (by have := HL17.out; omega) d hdok (HMAY.out d (List.mem_of_getElem? hd)) w ho)
            rw [hz] at HRF
            have E1 := Aside0.mk (wrap_up6 j (by have := HI10.out; omega))
            have HJ2 := Aside0.mk hj
            have HC := Aside0.mk hcell
            have HRG := Aside0.mk hrg
            clear hd hdok hra hj hcell hrg hz
            go_wp2
            obtain ⟨S, hS⟩ : ∃ S : World → Prop, S = fun w' => w'.rangeAt gs j [.int .i64 z] ∧ w'.rangeAt G o (lA d) := ⟨_, rfl⟩
            have HSx := Aside0.mk (show ∀ x : World, S x → x.rangeAt gs j [.int .i64 z] ∧ x.rangeAt G o (lA d) by intro b h; rw [hS] at h; exact h)
            have HSi := Aside0.mk (show ∀ x : World, x.rangeAt gs j [.int .i64 z] → x.rangeAt G o (lA d) → S x by intro b h h'; rw [hS]; exact ⟨h, h'⟩)
            have s0 : S wr.drew := HSi.out _ HC.out HRG.out
            have hb := bdrew (Below.refl wr.heap.size wr)
            replace HB := Aside0.mk (bdrew HB.out)
            replace HOW := Aside0.mk (ow_below HOW.out hb)
            replace HS := Aside0.mk (own_below_any HS.out hb)
            replace HQ := Aside0.mk (own_below_any HQ.out hb)
            clear hS hb HC HRG
            refine wp_region_held_drew (S := S) (by kernel_rfl) s0 (fun _ => ?_)
            generalize wr.drew = y0 at s0 HB HOW HS HQ ⊢
            (try simp only [Act.put, List.getElem_toArray, List.getElem_cons_succ, List.getElem_cons_zero, List.setIfInBounds_toArray, List.set_cons_zero, List.set_cons_succ])
            refine wpAnyH_take (i := 0) (v := .slice (some ⟨gs, 0, none⟩) i cs) rfl (by kernel_rfl) (by kernel_rfl) (by kernel_rfl) (fun _ _ _ h => h) (Or.inl ⟨by kernel_rfl, fun w' h => by first | (go_simp; done) | (go_simp; rfl)⟩) s0 ?_
            (try simp only [Act.put, List.getElem_toArray, List.getElem_cons_succ, List.getElem_cons_zero, List.setIfInBounds_toArray, List.set_cons_zero, List.set_cons_succ])
            refine wpAnyH_take (i := 1) (v := .int .i64 (j : Int)) rfl (by kernel_rfl) (by kernel_rfl) (by kernel_rfl) (fun _ _ _ h => h) (Or.inl ⟨by kernel_rfl, fun w' h => by first | (go_simp; done) | (go_simp; rfl)⟩) s0 ?_
            (try simp only [Act.put, List.getElem_toArray, List.getElem_cons_succ, List.getElem_cons_zero, List.setIfInBounds_toArray, List.set_cons_zero, List.set_cons_succ])
            refine wpAnyH_take (i := 2) (v := .pointer (some ⟨gs, j, none⟩)) rfl (by kernel_rfl) (by kernel_rfl) (by kernel_rfl) (fun _ _ _ h => h) (Or.inl ⟨by kernel_rfl, fun w' h => by have hf := hxs w'; first | (go_simp; done) | (go_simp; rfl)⟩) s0 ?_
            (try simp only [Act.put, List.getElem_toArray, List.getElem_cons_succ, List.getElem_cons_zero, List.setIfInBounds_toArray, List.set_cons_zero, List.set_cons_succ])
            refine wpAnyH_take (i := 3) (v := .int .i64 z) rfl (by kernel_rfl) (by kernel_rfl) (by kernel_rfl) (fun _ _ _ h => h) (Or.inl ⟨by kernel_rfl, fun w' h => by have hf : w'.cell? ⟨gs, j, none⟩ = some (.int .i64 z) := (HSx.out w' h).1 0 _ rfl; first | (go_simp; done) | (go_simp; rfl)⟩) s0 ?_
            (try simp only [Act.put, List.getElem_toArray, List.getElem_cons_succ, List.getElem_cons_zero, List.setIfInBounds_toArray, List.set_cons_zero, List.set_cons_succ])
            refine wpAnyH_take (i := 4) (v := u) rfl (by kernel_rfl) (by kernel_rfl) (by kernel_rfl) (fun _ _ _ h => h) (Or.inl ⟨by kernel_rfl, fun w' h => by first | (go_simp; done) | (go_simp; rfl)⟩) s0 ?_
            (try simp only [Act.put, List.getElem_toArray, List.getElem_cons_succ, List.getElem_cons_zero, List.setIfInBounds_toArray, List.set_cons_zero, List.set_cons_succ])
            refine wpAnyH_take (i := 5) (v := .slice Aq i cq) rfl (by kernel_rfl) (by kernel_rfl) (by kernel_rfl) (fun _ _ _ h => h) (Or.inl ⟨by kernel_rfl, fun w' h => by first | (go_simp; done) | (go_simp; rfl)⟩) s0 ?_
            (try simp only [Act.put, List.getElem_toArray, List.getElem_cons_succ, List.getElem_cons_zero, List.setIfInBounds_toArray, List.set_cons_zero, List.set_cons_succ])
            refine wpAnyH_take (i := 6) (v := .int .i64 (j : Int)) rfl (by kernel_rfl) (by kernel_rfl) (by kernel_rfl) (fun _ _ _ h => h) (Or.inl ⟨by kernel_rfl, fun w' h => by first | (go_simp; done) | (go_simp; rfl)⟩) s0 ?_
            (try simp only [Act.put, List.getElem_toArray, List.getElem_cons_succ, List.getElem_cons_zero, List.setIfInBounds_toArray, List.set_cons_zero, List.set_cons_succ])
            refine wpAnyH_take (i := 7) (v := .pointer (some ⟨G, o, none⟩)) rfl (by kernel_rfl) (by kernel_rfl) (by kernel_rfl) (fun _ _ _ h => h) (Or.inl ⟨by kernel_rfl, fun w' h => by have hf := hix w'; first | (go_simp; done) | (go_simp; rfl)⟩) s0 ?_
            (try simp only [Act.put, List.getElem_toArray, List.getElem_cons_succ, List.getElem_cons_zero, List.setIfInBounds_toArray, List.set_cons_zero, List.set_cons_succ])
            refine wpAnyH_take (i := 8) (v := .agg (eA d)) rfl (by kernel_rfl) (by kernel_rfl) (by kernel_rfl) (fun _ _ _ h => h) (yieldsIf_load_mid (by kernel_rfl) 30 (.tmp 57) rfl G o rfl (lA d) _ (fun w' h => (HSx.out w' h).2) Tryz.underlying30 rfl (infoAd_len HDO.out)) s0 ?_
            (try simp only [Act.put, List.getElem_toArray, List.getElem_cons_succ, List.getElem_cons_zero, List.setIfInBounds_toArray, List.set_cons_zero, List.set_cons_succ])
            refine held_step (i := 9) (by kernel_rfl) rfl (by kernel_rfl) (fun K hK => ?_)
            go_wp2_with (go_at_call 7; refine (HRF.out _ HOW.out).mono ?_; rintro r y1 ⟨rfl, hb⟩; have s1 := HSi.out _ (range_below (HSx.out _ s0).1 hb) (range_below (HSx.out _ s0).2 hb); replace HOW := Aside0.mk (ow_below HOW.out hb); replace HS := Aside0.mk (own_below_any HS.out hb); replace HQ := Aside0.mk (own_below_any HQ.out hb); replace HB := Aside0.mk (below_step HB.out hb); clear hb)
            refine hK.out _ _ s1 ?_
            clear hK K s0
            (try simp only [Act.put, List.getElem_toArray, List.getElem_cons_succ, List.getElem_cons_zero, List.setIfInBounds_toArray, List.set_cons_zero, List.set_cons_succ])
            refine wpAnyH_take (i := 10) (v := .bool false) rfl (by kernel_rfl) (by kernel_rfl) (by kernel_rfl) (fun _ _ _ h => h) (Or.inl ⟨by kernel_rfl, fun w' h => by first | (go_simp; done) | (go_simp; rfl)⟩) s1 ?_
            (try simp only [Act.put, List.getElem_toArray, List.getElem_cons_succ, List.getElem_cons_zero, List.setIfInBounds_toArray, List.set_cons_zero, List.set_cons_succ])
            refine wpAnyH_done (by kernel_rfl) ?_ _
            clear s1
            go_wp2
            go_roundw
            case rel => exact ⟨j + 1, by first | rfl | exact congrArg (Value.int .i64) E1.out | exact congrArg (Value.int .i64) (by omega), ⟨by have := HJ2.out; omega⟩, HS, HQ, HOW, HB⟩
            case measure => have := HJ2.out; exact measure_up i j _ (by first | rfl | exact E1.out | omega) (by omega)
          · have hji : j = i := by have := HJ.out; omega
            have g0 : decide ((j : Int) < (i : Int)) = false := decide_eq_false (by omega)
            have g0n : decide (j < i) = false := decide_eq_false hj
            clear hj hji
            go_wp2_with (first
              | (go_at_call 8; refine (lives16 _ (maxis_below HMX.out HB.out)).mono ?_; rintro r w9 ⟨rfl, hb⟩; replace HB := Aside0.mk (below_step HB.out hb); clear hb))
            go_ret
            exact ⟨rfl, HB.out⟩
      · have f0 : decide ((i : Int) < (n : Int)) = false := decide_eq_false (by omega)
        have f0n : decide (i < n) = false := decide_eq_false h1
        clear h1
        go_wp2_with (first
          | (go_at_call 6; refine (policy_Spaces M T T w.heap.size sv l kl HFL.out HL17.out Aq i cq Lg HOK.out HK.out HI10.out _ HM.out HQ.out).mono ?_; rintro r w8 ⟨vs, st, rfl, hs, htk⟩; replace HQ := Aside0.mk (own_ticks_any HQ.out htk (own_ne_any HQ.out HM.out.tb.blk (by decide))); replace HOW := Aside0.mk (ow_ticks HM.out.tb HOW.out htk); replace HB := Aside0.mk (ticks_new HB.out htk HLT.out (Nat.le_refl _)); have HS := Aside0.mk hs; obtain ⟨As, cs, hvs, hform⟩ := row_slice HS.out; subst hvs; have HFO := Aside0.mk hform; clear hs htk HM hform))
        obtain ⟨Bs, hBs⟩ : ∃ Bs, w8.heap.size = Bs := ⟨_, rfl⟩
        obtain ⟨Bi, hs0⟩ : ∃ Bi, w8.ownsRow Bi 3 1 (.slice As i cs) i (spV l Lg) := ⟨_, HS.out⟩
        replace HS := Aside0.mk hs0
        clear hs0 hBs
        go_loopw [10] (fun v10 wr => ∃ (j : Nat), v10 = .int .i64 (j : Int) ∧ Aside0 (j ≤ i) ∧ Aside0 (wr.ownsRow Bi 3 1 (.slice As i cs) i (spV l Lg)) ∧ Aside0 (wr.ownsRow w.heap.size 30 17 (.slice Aq i cq) i (flA Lg)) ∧ Aside0 (Ow wr u l) ∧ Aside0 (Below w.heap.size w wr)) (fun v10 _ => i - (intOf v10).toNat)
        case atStart => exact ⟨0, rfl, ⟨Nat.zero_le _⟩, HS, HQ, HOW, HB⟩
        case round =>
          clear HS HQ HOW HB
          obtain ⟨j, rfl, HJ, HS, HQ, HOW, HB⟩ := hrel
          by_cases hj : j < i
          · have g0 : decide ((j : Int) < (i : Int)) = true := decide_eq_true (by omega)
            have g0n : decide (j < i) = true := decide_eq_true hj
            obtain ⟨d, hd⟩ : ∃ d, Lg[j]? = some d := ⟨Lg[j]'(by have := HK.out; omega), List.getElem?_eq_getElem _⟩
            obtain ⟨A', c', hsl, hra⟩ := rdA_of_own (l := Lg) (by rw [HK.out]; exact HQ.out) HOK.out
            rw [HK.out] at hsl hra
            injection hsl with hs1 hs2 hs3
            subst hs1 hs3
            obtain ⟨G, o, hix, hrg, hdok⟩ := hra.at_ j d hd
            obtain ⟨gs, hgs⟩ := HFO.out (by omega)
            subst hgs
            have hxs := fun w => idx_int gs i cs j w hj
            obtain ⟨z, hz⟩ : ∃ z, spOf l d = z := ⟨_, rfl⟩
            have hcell : wr.rangeAt gs j [.int .i64 z] := fun t v hv => by
              have ht : t = 0 := by rcases t with _ | t; rfl; simp at hv
              subst ht
              have hv' : Value.int .i64 z = v := by simpa using hv
              subst hv'
              have := HS.out.cells (g := gs) rfl j (.int .i64 z) (by unfold spV; rw [List.getElem?_map, hd, ← hz]; rfl)
              rwa [add_plain] at this
            have HDO := Aside0.mk hdok
            have HRF := Aside0.mk (fun (w : World) (ho : Ow w u l) => ref07_Of u l kl HFL.out (by have := HL17.out; omega) d hdok (HMAY.out d (List.mem_of_getElem? hd)) w ho)
            rw [hz] at HRF
            have E1 := Aside0.mk (wrap_up6 j (by have := HI10.out; omega))
            have HJ2 := Aside0.mk hj
            have HC := Aside0.mk hcell
            have HRG := Aside0.mk hrg
            clear hd hdok hra hj hcell hrg hz
            go_wp2
            obtain ⟨S, hS⟩ : ∃ S : World → Prop, S = fun w' => w'.rangeAt gs j [.int .i64 z] ∧ w'.rangeAt G o (lA d) := ⟨_, rfl⟩
            have HSx := Aside0.mk (show ∀ x : World, S x → x.rangeAt gs j [.int .i64 z] ∧ x.rangeAt G o (lA d) by intro b h; rw [hS] at h; exact h)
            have HSi := Aside0.mk (show ∀ x : World, x.rangeAt gs j [.int .i64 z] → x.rangeAt G o (lA d) → S x by intro b h h'; rw [hS]; exact ⟨h, h'⟩)
            have s0 : S wr.drew := HSi.out _ HC.out HRG.out
            have hb := bdrew (Below.refl wr.heap.size wr)
            replace HB := Aside0.mk (bdrew HB.out)
            replace HOW := Aside0.mk (ow_below HOW.out hb)
            replace HS := Aside0.mk (own_below_any HS.out hb)
            replace HQ := Aside0.mk (own_below_any HQ.out hb)
            clear hS hb HC HRG
            refine wp_region_held_drew (S := S) (by kernel_rfl) s0 (fun _ => ?_)
            generalize wr.drew = y0 at s0 HB HOW HS HQ ⊢
            (try simp only [Act.put, List.getElem_toArray, List.getElem_cons_succ, List.getElem_cons_zero, List.setIfInBounds_toArray, List.set_cons_zero, List.set_cons_succ])
            refine wpAnyH_take (i := 0) (v := .slice (some ⟨gs, 0, none⟩) i cs) rfl (by kernel_rfl) (by kernel_rfl) (by kernel_rfl) (fun _ _ _ h => h) (Or.inl ⟨by kernel_rfl, fun w' h => by first | (go_simp; done) | (go_simp; rfl)⟩) s0 ?_
            (try simp only [Act.put, List.getElem_toArray, List.getElem_cons_succ, List.getElem_cons_zero, List.setIfInBounds_toArray, List.set_cons_zero, List.set_cons_succ])
            refine wpAnyH_take (i := 1) (v := .int .i64 (j : Int)) rfl (by kernel_rfl) (by kernel_rfl) (by kernel_rfl) (fun _ _ _ h => h) (Or.inl ⟨by kernel_rfl, fun w' h => by first | (go_simp; done) | (go_simp; rfl)⟩) s0 ?_
            (try simp only [Act.put, List.getElem_toArray, List.getElem_cons_succ, List.getElem_cons_zero, List.setIfInBounds_toArray, List.set_cons_zero, List.set_cons_succ])
            refine wpAnyH_take (i := 2) (v := .pointer (some ⟨gs, j, none⟩)) rfl (by kernel_rfl) (by kernel_rfl) (by kernel_rfl) (fun _ _ _ h => h) (Or.inl ⟨by kernel_rfl, fun w' h => by have hf := hxs w'; first | (go_simp; done) | (go_simp; rfl)⟩) s0 ?_
            (try simp only [Act.put, List.getElem_toArray, List.getElem_cons_succ, List.getElem_cons_zero, List.setIfInBounds_toArray, List.set_cons_zero, List.set_cons_succ])
            refine wpAnyH_take (i := 3) (v := .int .i64 z) rfl (by kernel_rfl) (by kernel_rfl) (by kernel_rfl) (fun _ _ _ h => h) (Or.inl ⟨by kernel_rfl, fun w' h => by have hf : w'.cell? ⟨gs, j, none⟩ = some (.int .i64 z) := (HSx.out w' h).1 0 _ rfl; first | (go_simp; done) | (go_simp; rfl)⟩) s0 ?_
            (try simp only [Act.put, List.getElem_toArray, List.getElem_cons_succ, List.getElem_cons_zero, List.setIfInBounds_toArray, List.set_cons_zero, List.set_cons_succ])
            refine wpAnyH_take (i := 4) (v := u) rfl (by kernel_rfl) (by kernel_rfl) (by kernel_rfl) (fun _ _ _ h => h) (Or.inl ⟨by kernel_rfl, fun w' h => by first | (go_simp; done) | (go_simp; rfl)⟩) s0 ?_
            (try simp only [Act.put, List.getElem_toArray, List.getElem_cons_succ, List.getElem_cons_zero, List.setIfInBounds_toArray, List.set_cons_zero, List.set_cons_succ])
            refine wpAnyH_take (i := 5) (v := .slice Aq i cq) rfl (by kernel_rfl) (by kernel_rfl) (by kernel_rfl) (fun _ _ _ h => h) (Or.inl ⟨by kernel_rfl, fun w' h => by first | (go_simp; done) | (go_simp; rfl)⟩) s0 ?_
            (try simp only [Act.put, List.getElem_toArray, List.getElem_cons_succ, List.getElem_cons_zero, List.setIfInBounds_toArray, List.set_cons_zero, List.set_cons_succ])
            refine wpAnyH_take (i := 6) (v := .int .i64 (j : Int)) rfl (by kernel_rfl) (by kernel_rfl) (by kernel_rfl) (fun _ _ _ h => h) (Or.inl ⟨by kernel_rfl, fun w' h => by first | (go_simp; done) | (go_simp; rfl)⟩) s0 ?_
            (try simp only [Act.put, List.getElem_toArray, List.getElem_cons_succ, List.getElem_cons_zero, List.setIfInBounds_toArray, List.set_cons_zero, List.set_cons_succ])
            refine wpAnyH_take (i := 7) (v := .pointer (some ⟨G, o, none⟩)) rfl (by kernel_rfl) (by kernel_rfl) (by kernel_rfl) (fun _ _ _ h => h) (Or.inl ⟨by kernel_rfl, fun w' h => by have hf := hix w'; first | (go_simp; done) | (go_simp; rfl)⟩) s0 ?_
            (try simp only [Act.put, List.getElem_toArray, List.getElem_cons_succ, List.getElem_cons_zero, List.setIfInBounds_toArray, List.set_cons_zero, List.set_cons_succ])
            refine wpAnyH_take (i := 8) (v := .agg (eA d)) rfl (by kernel_rfl) (by kernel_rfl) (by kernel_rfl) (fun _ _ _ h => h) (yieldsIf_load_mid (by kernel_rfl) 30 (.tmp 57) rfl G o rfl (lA d) _ (fun w' h => (HSx.out w' h).2) Tryz.underlying30 rfl (infoAd_len HDO.out)) s0 ?_
            (try simp only [Act.put, List.getElem_toArray, List.getElem_cons_succ, List.getElem_cons_zero, List.setIfInBounds_toArray, List.set_cons_zero, List.set_cons_succ])
            refine held_step (i := 9) (by kernel_rfl) rfl (by kernel_rfl) (fun K hK => ?_)
            go_wp2_with (go_at_call 7; refine (HRF.out _ HOW.out).mono ?_; rintro r y1 ⟨rfl, hb⟩; have s1 := HSi.out _ (range_below (HSx.out _ s0).1 hb) (range_below (HSx.out _ s0).2 hb); replace HOW := Aside0.mk (ow_below HOW.out hb); replace HS := Aside0.mk (own_below_any HS.out hb); replace HQ := Aside0.mk (own_below_any HQ.out hb); replace HB := Aside0.mk (below_step HB.out hb); clear hb)
            refine hK.out _ _ s1 ?_
            clear hK K s0
            (try simp only [Act.put, List.getElem_toArray, List.getElem_cons_succ, List.getElem_cons_zero, List.setIfInBounds_toArray, List.set_cons_zero, List.set_cons_succ])
            refine wpAnyH_take (i := 10) (v := .bool false) rfl (by kernel_rfl) (by kernel_rfl) (by kernel_rfl) (fun _ _ _ h => h) (Or.inl ⟨by kernel_rfl, fun w' h => by first | (go_simp; done) | (go_simp; rfl)⟩) s1 ?_
            (try simp only [Act.put, List.getElem_toArray, List.getElem_cons_succ, List.getElem_cons_zero, List.setIfInBounds_toArray, List.set_cons_zero, List.set_cons_succ])
            refine wpAnyH_done (by kernel_rfl) ?_ _
            clear s1
            go_wp2
            go_roundw
            case rel => exact ⟨j + 1, by first | rfl | exact congrArg (Value.int .i64) E1.out | exact congrArg (Value.int .i64) (by omega), ⟨by have := HJ2.out; omega⟩, HS, HQ, HOW, HB⟩
            case measure => have := HJ2.out; exact measure_up i j _ (by first | rfl | exact E1.out | omega) (by omega)
          · have hji : j = i := by have := HJ.out; omega
            have g0 : decide ((j : Int) < (i : Int)) = false := decide_eq_false (by omega)
            have g0n : decide (j < i) = false := decide_eq_false hj
            clear hj hji
            go_wp2_with (first
              | (go_at_call 8; refine (lives16 _ (maxis_below HMX.out HB.out)).mono ?_; rintro r w9 ⟨rfl, hb⟩; replace HB := Aside0.mk (below_step HB.out hb); clear hb))
            go_ret
            exact ⟨rfl, HB.out⟩
end Go.Proofs.YthdognlkacjkhaaGreatDoor.P
