/-
  Texts of the proof, put together.
-/
import Derived.Lib.BytesEntry
import Derived.Laws.Externs
import Derived.Test.YthdognlkacjkhaaGreatDoorM3
section
namespace Go.Proofs.YthdognlkacjkhaaGreatDoor.P
open Go.RowKit Go.Proofs.YthdognlkacjkhaaGreatDoorW.PrintWords Go.Proofs.YthdognlkacjkhaaGreatDoorW.PrintLast Go.Proofs.YthdognlkacjkhaaGreatDoorW.PrintMore
set_option linter.unusedVariables false
set_option linter.unusedSimpArgs false
def cmpI (x y : Int) : Int := if x < y then -1 else if y < x then 1 else 0
def orI (x y : Int) : Int := if x ≠ 0 then x else y
set_option maxHeartbeats 2000000 in
set_option maxRecDepth 100000 in
theorem cmp_isNaN (x : Int) (w : World) : Calls Tryz.prog 124 #[.int .i64 x] w fun e w' => e = .returned (.bool false) ∧ w' = w := by
  have c0 : (x != x) = false := by simp
  have c1 : (x == x) = true := by simp
  go_enter Tryz.func124, Tryz.ntmps124
  go_wp2
  go_ret
  exact ⟨by first | rfl | simp, rfl⟩
set_option maxHeartbeats 2000000 in
set_option maxRecDepth 100000 in
theorem cmp_Compare (x y : Int) (w : World) : Calls Tryz.prog 109 #[.int .i64 x, .int .i64 y] w fun e w' => e = .returned (.int .i64 (cmpI x y)) ∧ w' = w := by
  by_cases h1 : x < y
  · have c1b0 : decide (x < y) = true := decide_eq_true h1
    have HR := Aside0.mk (show cmpI x y = -1 by unfold cmpI; rw [if_pos h1])
    clear h1
    go_enter Tryz.func109, Tryz.ntmps109
    go_wp2_with (go_at_call 124; refine (cmp_isNaN _ _).mono ?_; rintro e w1 ⟨rfl, rfl⟩)
    go_ret
    exact ⟨by rw [HR.out]; first | done | rfl, rfl⟩
  · have c1b0 : decide (x < y) = false := decide_eq_false h1
    by_cases h2 : y < x
    · have c2b0 : decide (y < x) = true := decide_eq_true h2
      have HR := Aside0.mk (show cmpI x y = 1 by unfold cmpI; rw [if_neg h1, if_pos h2])
      clear h1 h2
      go_enter Tryz.func109, Tryz.ntmps109
      go_wp2_with (go_at_call 124; refine (cmp_isNaN _ _).mono ?_; rintro e w1 ⟨rfl, rfl⟩)
      go_ret
      exact ⟨by rw [HR.out]; first | done | rfl, rfl⟩
    · have c2b0 : decide (y < x) = false := decide_eq_false h2
      have HR := Aside0.mk (show cmpI x y = 0 by unfold cmpI; rw [if_neg h1, if_neg h2])
      clear h1 h2
      go_enter Tryz.func109, Tryz.ntmps109
      go_wp2_with (go_at_call 124; refine (cmp_isNaN _ _).mono ?_; rintro e w1 ⟨rfl, rfl⟩)
      go_ret
      exact ⟨by rw [HR.out]; first | done | rfl, rfl⟩
set_option maxHeartbeats 2000000 in
set_option maxRecDepth 100000 in
theorem cmp_Or (g : Nat) (t : TypeId) (x y : Int) (w : World) (hg : w.heap[g]? = some (.cells #[.int .i64 x, .int .i64 y] t (0, 0))) : Calls Tryz.prog 107 #[.slice (some ⟨g, 0, none⟩) 2 2] w fun e w' => e = .returned (.int .i64 (orI x y)) ∧ w' = w := by
  have h0 : w.cell? ⟨g, 0, none⟩ = some (.int .i64 x) := blk_cell hg 0
  have h1 : w.cell? ⟨g, 1, none⟩ = some (.int .i64 y) := blk_cell hg 1
  clear hg
  have HR := Aside0.mk (show orI x y = if x ≠ 0 then x else y from rfl)
  go_enter Tryz.func107, Tryz.ntmps107
  go_wp2
  go_loopw [8] (fun v8 wr => ∃ i : Nat, v8 = .int .i64 (i : Int) ∧ Aside0 (i ≤ 2) ∧ Aside0 (0 < i → x = 0) ∧ Aside0 (1 < i → y = 0) ∧ Aside0 (wr = w)) (fun v8 _ => 2 - (intOf v8).toNat)
  case atStart => exact ⟨0, rfl, ⟨by omega⟩, ⟨fun h => absurd h (by decide)⟩, ⟨fun h => absurd h (by decide)⟩, ⟨rfl⟩⟩
  case round =>
    obtain ⟨i, rfl, HI, HX, HY, HE⟩ := hrel
    obtain rfl := HE.out
    have hi3 : i = 0 ∨ i = 1 ∨ i = 2 := by have := HI.out; omega
    rcases hi3 with rfl | rfl | rfl
    · by_cases hx : x = 0
      · have c3b0 : (x != 0) = false := by simpa using hx
        have c3b1 : (x == 0) = true := by simpa using hx
        have HX2 := Aside0.mk hx
        clear hx
        go_wp2
        go_roundw
        case rel => exact ⟨1, rfl, ⟨by decide⟩, ⟨fun _ => HX2.out⟩, ⟨fun h => absurd h (by decide)⟩, ⟨trivial⟩⟩
        case measure => decide
      · have c3b0 : (x != 0) = true := by simpa using hx
        have c3b1 : (x == 0) = false := by simpa using hx
        have HR2 := Aside0.mk (HR.out.trans (if_pos hx))
        clear hx
        go_wp2
        go_ret
        exact ⟨by rw [HR2.out]; first | done | rfl, rfl⟩
    · have HX2 := Aside0.mk (HX.out (by decide))
      by_cases hx : y = 0
      · have c3b0 : (y != 0) = false := by simpa using hx
        have c3b1 : (y == 0) = true := by simpa using hx
        have HY2 := Aside0.mk hx
        clear hx
        go_wp2
        go_roundw
        case rel => exact ⟨2, rfl, ⟨by decide⟩, ⟨fun _ => HX2.out⟩, ⟨fun _ => HY2.out⟩, ⟨trivial⟩⟩
        case measure => decide
      · have c3b0 : (y != 0) = true := by simpa using hx
        have c3b1 : (y == 0) = false := by simpa using hx
        have HR2 := Aside0.mk (HR.out.trans (if_neg (fun h => h HX2.out)))
        clear hx
        go_wp2
        go_ret
        exact ⟨by rw [HR2.out]; first | done | rfl, rfl⟩
    · have HR2 := Aside0.mk ((HR.out.trans (if_neg (fun h => h (HX.out (by decide))))).trans (HY.out (by decide)))
      go_wp2
      go_ret
      exact ⟨by rw [HR2.out]; first | done | rfl, rfl⟩
/-! ### bytes.Compare -/
/-- Numbers below 256, held against one another one by one. -/
def lexC : List Int → List Int → Int
  | a :: x, b :: y => if a < b then -1 else if b < a then 1 else lexC x y
  | _, _ => 0
theorem u8_lt {a b : Int} (ha : 0 ≤ a ∧ a ≤ 255) (hb : 0 ≤ b ∧ b ≤ 255) : (a.toNat.toUInt8 < b.toNat.toUInt8) ↔ a < b := by
  rw [UInt8.lt_iff_toNat_lt, Nat.toUInt8_eq, Nat.toUInt8_eq, UInt8.toNat_ofNat', UInt8.toNat_ofNat']
  omega
theorem compareBytes_lex : ∀ (x y : List Int), x.length = y.length → (∀ a ∈ x, 0 ≤ a ∧ a ≤ 255) → (∀ a ∈ y, 0 ≤ a ∧ a ≤ 255) → Lib.compareBytes (Lib.bytesOf x) (Lib.bytesOf y) = lexC x y
  | [], [], _, _, _ => rfl
  | a :: x, b :: y, hl, hx, hy => by
    have ih := compareBytes_lex x y (by simpa using hl) (fun c hc => hx c (List.mem_cons_of_mem _ hc)) (fun c hc => hy c (List.mem_cons_of_mem _ hc))
    have h1 := u8_lt (hx a List.mem_cons_self) (hy b List.mem_cons_self)
    have h2 := u8_lt (hy b List.mem_cons_self) (hx a List.mem_cons_self)
    show (if a.toNat.toUInt8 < b.toNat.toUInt8 then (-1 : Int) else if b.toNat.toUInt8 < a.toNat.toUInt8 then 1 else Lib.compareBytes (Lib.bytesOf x) (Lib.bytesOf y)) = if a < b then -1 else if b < a then 1 else lexC x y
    rw [ih]
    by_cases c1 : a < b
    · rw [if_pos c1, if_pos (h1.2 c1)]
    · rw [if_neg c1, if_neg (fun h => c1 (h1.1 h))]
      by_cases c2 : b < a
      · rw [if_pos c2, if_pos (h2.2 c2)]
      · rw [if_neg c2, if_neg (fun h => c2 (h2.1 h))]
theorem run_bytes {P : Program} (w : World) (g o n c : Nat) (xs : List Int) (hx : xs.length = n) (h : ∀ j x, xs[j]? = some x → w.cell? ⟨g, o + j, none⟩ = some (.int .u8 x)) : (Extern.Bytes.bytesOf (.slice (some ⟨g, o, none⟩) n c)).run P w = .ok ⟨(Lib.bytesOf xs).toArray⟩ w := by
  have hl := Lib.run_loadBytesX (P := P) w xs ⟨g, o, none⟩ .empty (fun j x hj => by rw [Addr.add_mid]; exact h j x hj)
  rw [hx] at hl
  have he : (⟨ByteArray.empty.data ++ (Lib.bytesOf xs).toArray⟩ : ByteArray) = ⟨(Lib.bytesOf xs).toArray⟩ := by
    apply ByteArray.ext
    show (#[] : Array UInt8) ++ (Lib.bytesOf xs).toArray = (Lib.bytesOf xs).toArray
    simp
  rw [he] at hl
  exact hl
theorem run_compareSl {P : Program} (w : World) (g o g' o' n c n' c' : Nat) (x y : List Int) (hx : x.length = n) (hy : y.length = n') (h : ∀ j v, x[j]? = some v → w.cell? ⟨g, o + j, none⟩ = some (.int .u8 v)) (h' : ∀ j v, y[j]? = some v → w.cell? ⟨g', o' + j, none⟩ = some (.int .u8 v)) :
    (Extern.BytealgCompare.compare #[.slice (some ⟨g, o, none⟩) n c, .slice (some ⟨g', o', none⟩) n' c']).run P w = .ok (.int .i64 (Lib.compareBytes (Lib.bytesOf x) (Lib.bytesOf y))) w := by
  change Sem.run P (do pure (goInt (Extern.BytealgCompare.cmp (← Extern.Bytes.bytesOf (.slice (some ⟨g, o, none⟩) n c)) (← Extern.Bytes.bytesOf (.slice (some ⟨g', o', none⟩) n' c'))))) w = _
  simp only [Sem.run_bind, Sem.run_pure, run_bytes w g o n c x hx h, run_bytes w g' o' n' c' y hy h', Result.andThen]
  rw [Lib.cmp_eq]
  rfl
set_option maxHeartbeats 2000000 in
set_option maxRecDepth 100000 in
theorem bytes_Compare (g o g' o' n c n' c' : Nat) (x y : List Int) (w : World) (hx : x.length = n) (hy : y.length = n') (hl : n = n') (h : ∀ j v, x[j]? = some v → w.cell? ⟨g, o + j, none⟩ = some (.int .u8 v)) (h' : ∀ j v, y[j]? = some v → w.cell? ⟨g', o' + j, none⟩ = some (.int .u8 v))
    (hx2 : ∀ a ∈ x, 0 ≤ a ∧ a ≤ 255) (hy2 : ∀ a ∈ y, 0 ≤ a ∧ a ≤ 255) : Calls Tryz.prog 123 #[.slice (some ⟨g, o, none⟩) n c, .slice (some ⟨g', o', none⟩) n' c'] w fun e w' => e = .returned (.int .i64 (lexC x y)) ∧ w' = w := by
  have HR := Aside0.mk (run_compareSl (P := Tryz.prog) w g o g' o' n c n' c' x y hx hy h h')
  have HC := Aside0.mk (compareBytes_lex x y (hx.trans (hl.trans hy.symm)) hx2 hy2)
  clear h h' hx2 hy2 hx hy hl
  go_enter Tryz.func123, Tryz.ntmps123
  go_wp2
  rw [run_callFunc_extern Tryz.func138 (by kernel_rfl) (by kernel_rfl) (by kernel_rfl) (e := Extern.BytealgCompare.compare) (by kernel_rfl), HR.out]
  simp only [Result.andThen]
  rw [Oper.upon_value]
  go_wp2
  go_ret
  exact ⟨by first | rfl | (rw [HC.out]; rfl), rfl⟩
theorem lexC_drop (x y : List Int) : ∀ (d i : Nat), x.length = i + d → y.length = i + d → cmpB x y d i = lexC (x.drop i) (y.drop i)
  | 0, i, h, k => by rw [List.drop_of_length_le (by omega), List.drop_of_length_le (by omega)]; rfl
  | d + 1, i, h, k => by
    have ih := lexC_drop x y d (i + 1) (by omega) (by omega)
    have hx : i < x.length := by omega
    have hy : i < y.length := by omega
    rw [List.drop_eq_getElem_cons hx, List.drop_eq_getElem_cons hy]
    have ex : byt x i = x[i] := by unfold byt; rw [List.getD_eq_getElem?_getD, List.getElem?_eq_getElem hx]; rfl
    have ey : byt y i = y[i] := by unfold byt; rw [List.getD_eq_getElem?_getD, List.getElem?_eq_getElem hy]; rfl
    rw [cmpB, lexC, ex, ey, ih]
theorem cmpA_or {a b : Ad} (ha : a.ok) (hb : b.ok) : cmpA a b = orI (cmpI a.fam b.fam) (lexC a.bs b.bs) := by
  have h := lexC_drop a.bs b.bs 16 0 (by have := ha.1; omega) (by have := hb.1; omega)
  rw [List.drop_zero, List.drop_zero] at h
  unfold cmpA orI
  rw [h]
  have h3 : cmpI a.fam b.fam = if a.fam < b.fam then -1 else if b.fam < a.fam then 1 else 0 := rfl
  by_cases h1 : a.fam < b.fam
  · rw [if_pos h1] at h3
    rw [h3, if_pos (show a.fam ≠ b.fam by omega), if_pos h1, if_pos (by decide)]
  · rw [if_neg h1] at h3
    by_cases h2 : b.fam < a.fam
    · rw [if_pos h2] at h3
      rw [h3, if_pos (show a.fam ≠ b.fam by omega), if_neg h1, if_pos (by decide)]
    · rw [if_neg h2] at h3
      rw [h3, if_neg (show ¬ a.fam ≠ b.fam by omega), if_neg (by decide)]
theorem part_bytes {w : World} {g : Nat} {a : Ad} {t : TypeId} (hg : w.heap[g]? = some (.cells (eA a) t (0, 0))) : ∀ j v, a.bs[j]? = some v → w.cell? ⟨g, 1 + j, none⟩ = some (.int .u8 v) := fun j v hv => by
  rw [cell_of_row w g (1 + j) (eA a) t (0, 0) hg]
  unfold eA lA
  rw [List.getElem?_toArray, show 1 + j = j + 1 by omega, List.getElem?_cons_succ, List.getElem?_map, hv]
  rfl
set_option maxHeartbeats 4000000 in
set_option maxRecDepth 100000 in
theorem addr_Compare (a b : Ad) (ha : a.ok) (hb : b.ok) (w : World) : Calls Tryz.prog 108 #[.agg (eA a), .agg (eA b)] w fun e w' => e = .returned (.int .i64 (cmpA a b)) ∧ Below w.heap.size w w' := by
  have HA := Aside0.mk ha
  have HBB := Aside0.mk hb
  have HR := Aside0.mk (cmpA_or ha hb)
  clear ha hb
  have HB := Aside0.mk (Below.refl w.heap.size w)
  go_enter Tryz.func108, Tryz.ntmps108
  go_wp2_with (first
    | ((with_reducible refine gate_dst (N := 2) rfl ?_); refine box_event ?hg (N := 2) ?hd (cs := eA a) (t := 30) ?hr ?_; (case hd => rfl); (case hg => rfl); (case hr => first | (go_simp; done) | (go_simp; rfl)); intro g2 hg w2 hbox hb; have HX := Aside0.mk hbox; replace HB := Aside0.mk (below_step (bel_later HB.out) hb); clear hb hg hbox)
    | ((with_reducible refine gate_dst (N := 3) rfl ?_); refine box_event ?hg (N := 3) ?hd (cs := eA b) (t := 30) ?hr ?_; (case hd => rfl); (case hg => rfl); (case hr => first | (go_simp; done) | (go_simp; rfl)); intro g3 hg w3 hbox hb; have HY := Aside0.mk hbox; replace HX := Aside0.mk (blk_below (blk_later HX.out) hb); replace HB := Aside0.mk (below_step (bel_later HB.out) hb); clear hb hg hbox))
  obtain ⟨S, hS⟩ : ∃ S : World → Prop, S = fun w' => w'.heap[g2]? = some (.cells (eA a) 30 (0, 0)) ∧ w'.heap[g3]? = some (.cells (eA b) 30 (0, 0)) ∧ Below w.heap.size w w' := ⟨_, rfl⟩
  have HSt := Aside0.mk (show ∀ a b : World, S a → Below a.heap.size a b → S b by
    intro a b h hb
    rw [hS] at h ⊢
    exact ⟨blk_below h.1 hb, blk_below h.2.1 hb, below_step h.2.2 hb⟩)
  have HSx := Aside0.mk (show ∀ x : World, S x → x.heap[g2]? = some (.cells (eA a) 30 (0, 0)) ∧ x.heap[g3]? = some (.cells (eA b) 30 (0, 0)) ∧ Below w.heap.size w x by
    intro b h
    rw [hS] at h
    exact h)
  have s0 : S w3.drew := by rw [hS]; exact ⟨blk_later HX.out, blk_later HY.out, bel_later HB.out⟩
  clear hS
  refine wp_region_held_drew (S := S) (by kernel_rfl) s0 (fun _ => ?_)
  refine anyH_world s0 (fun w5 s5 => ?_)
  clear s0
  have s0 := s5
  clear s5
  refine wpAnyH_take (i := 0) (v := .pointer (some ⟨g2, 0, none⟩)) rfl (by kernel_rfl) (by kernel_rfl) (by kernel_rfl) (fun _ _ _ h => h) (Or.inl ⟨by kernel_rfl, fun w' h => by first | (go_simp; done) | (go_simp; rfl)⟩) s0 ?_
  (try simp only [Act.put, List.setIfInBounds_toArray, List.set_cons_zero, List.set_cons_succ])
  refine wpAnyH_take (i := 1) (v := .int .i64 a.fam) rfl (by kernel_rfl) (by kernel_rfl) (by kernel_rfl) (fun _ _ _ h => h) (Or.inl ⟨by kernel_rfl, fun w' h => by have hf := (blk_cell (HSx.out w' h).1 0).trans (eA_fam a); first | (go_simp; done) | (go_simp; rfl)⟩) s0 ?_
  (try simp only [Act.put, List.setIfInBounds_toArray, List.set_cons_zero, List.set_cons_succ])
  refine wpAnyH_take (i := 2) (v := .pointer (some ⟨g3, 0, none⟩)) rfl (by kernel_rfl) (by kernel_rfl) (by kernel_rfl) (fun _ _ _ h => h) (Or.inl ⟨by kernel_rfl, fun w' h => by first | (go_simp; done) | (go_simp; rfl)⟩) s0 ?_
  (try simp only [Act.put, List.setIfInBounds_toArray, List.set_cons_zero, List.set_cons_succ])
  refine wpAnyH_take (i := 3) (v := .int .i64 b.fam) rfl (by kernel_rfl) (by kernel_rfl) (by kernel_rfl) (fun _ _ _ h => h) (Or.inl ⟨by kernel_rfl, fun w' h => by have hf := (blk_cell (HSx.out w' h).2.1 0).trans (eA_fam b); first | (go_simp; done) | (go_simp; rfl)⟩) s0 ?_
  (try simp only [Act.put, List.setIfInBounds_toArray, List.set_cons_zero, List.set_cons_succ])
  refine wpAnyH_take (i := 5) (v := .pointer (some ⟨g2, 1, none⟩)) rfl (by kernel_rfl) (by kernel_rfl) (by kernel_rfl) (fun _ _ _ h => h) (Or.inl ⟨by kernel_rfl, fun w' h => by first | (go_simp; done) | (go_simp; rfl)⟩) s0 ?_
  (try simp only [Act.put, List.setIfInBounds_toArray, List.set_cons_zero, List.set_cons_succ])
  refine wpAnyH_take (i := 6) (v := .slice (some ⟨g2, 1, none⟩) 16 16) rfl (by kernel_rfl) (by kernel_rfl) (by kernel_rfl) (fun _ _ _ h => h) (Or.inl ⟨by kernel_rfl, fun w' h => by first | (go_simp; done) | (go_simp; rfl)⟩) s0 ?_
  (try simp only [Act.put, List.setIfInBounds_toArray, List.set_cons_zero, List.set_cons_succ])
  refine wpAnyH_take (i := 7) (v := .pointer (some ⟨g3, 1, none⟩)) rfl (by kernel_rfl) (by kernel_rfl) (by kernel_rfl) (fun _ _ _ h => h) (Or.inl ⟨by kernel_rfl, fun w' h => by first | (go_simp; done) | (go_simp; rfl)⟩) s0 ?_
  (try simp only [Act.put, List.setIfInBounds_toArray, List.set_cons_zero, List.set_cons_succ])
  refine wpAnyH_take (i := 8) (v := .slice (some ⟨g3, 1, none⟩) 16 16) rfl (by kernel_rfl) (by kernel_rfl) (by kernel_rfl) (fun _ _ _ h => h) (Or.inl ⟨by kernel_rfl, fun w' h => by first | (go_simp; done) | (go_simp; rfl)⟩) s0 ?_
  (try simp only [Act.put, List.setIfInBounds_toArray, List.set_cons_zero, List.set_cons_succ])
  refine held_step (i := 4) (by kernel_rfl) rfl (by kernel_rfl) (fun K hK => ?_)
  go_wp2_with (go_at_call 109; refine (cmp_Compare _ _ _).mono ?_; rintro e w6 ⟨rfl, rfl⟩)
  refine hK.out _ _ s0 ?_
  clear hK K
  (try simp only [Act.put, List.setIfInBounds_toArray, List.set_cons_zero, List.set_cons_succ])
  refine held_step (i := 9) (by kernel_rfl) rfl (by kernel_rfl) (fun K hK => ?_)
  go_wp2_with (go_at_call 123; refine (bytes_Compare g2 1 g3 1 16 16 16 16 a.bs b.bs _ HA.out.1 HBB.out.1 rfl (part_bytes (HSx.out _ s0).1) (part_bytes (HSx.out _ s0).2.1) HA.out.2 HBB.out.2).mono ?_; rintro e w6 ⟨rfl, rfl⟩)
  refine hK.out _ _ s0 ?_
  clear hK K
  (try simp only [Act.put, List.setIfInBounds_toArray, List.set_cons_zero, List.set_cons_succ])
  refine held_step (i := 10) (by kernel_rfl) rfl (by kernel_rfl) (fun K hK => ?_)
  go_wp2
  have s1 := HSt.out _ _ s0 (below_alloc (Below.refl _ _) (Obj.cells #[.int .i64 (cmpI a.fam b.fam), .int .i64 (lexC a.bs b.bs)] 3))
  refine hK.out _ _ s1 ?_
  clear hK K
  (try simp only [Act.put, List.setIfInBounds_toArray, List.set_cons_zero, List.set_cons_succ])
  refine held_step (i := 11) (by kernel_rfl) rfl (by kernel_rfl) (fun K hK => ?_)
  go_wp2_with (go_at_call 107; refine (cmp_Or w6.heap.size _ (cmpI a.fam b.fam) (lexC a.bs b.bs) _ (heap_alloc_new _ _)).mono ?_; rintro e w8 ⟨rfl, rfl⟩)
  refine hK.out _ _ s1 ?_
  clear hK K
  (try simp only [Act.put, List.setIfInBounds_toArray, List.set_cons_zero, List.set_cons_succ])
  refine held_step (i := 12) (by kernel_rfl) rfl (by kernel_rfl) (fun K hK => ?_)
  go_wp2
  refine hK.out _ _ s1 ?_
  clear hK K
  (try simp only [Act.put, List.setIfInBounds_toArray, List.set_cons_zero, List.set_cons_succ])
  refine wpAnyH_done (by kernel_rfl) ?_ _
  have HF := Aside0.mk (HSx.out _ s1).2.2
  clear s0 s1
  go_wp2
  go_ret
  exact ⟨by rw [HR.out]; first | done | rfl, HF.out⟩
theorem cmpP_or (p q : Pf) : cmpP p q = orI (cmpA p.a q.a) (cmpI p.n q.n) := rfl
set_option maxHeartbeats 4000000 in
set_option maxRecDepth 100000 in
theorem cidr_Compare (p q : Pf) (hp : p.a.ok) (hq : q.a.ok) (w : World) : Calls Tryz.prog 81 #[.agg (eP p), .agg (eP q)] w fun e w' => e = .returned (.int .i64 (cmpP p q)) ∧ Below w.heap.size w w' := by
  have HP := Aside0.mk hp
  have HQ := Aside0.mk hq
  have HR := Aside0.mk (cmpP_or p q)
  clear hp hq
  have HB := Aside0.mk (Below.refl w.heap.size w)
  go_enter Tryz.func81, Tryz.ntmps81
  go_wp2_with (first
    | ((with_reducible refine gate_dst (N := 2) rfl ?_); refine box_event ?hg (N := 2) ?hd (cs := eP p) (t := 42) ?hr ?_; (case hd => rfl); (case hg => rfl); (case hr => first | (go_simp; done) | (go_simp; rfl)); intro g2 hg w2 hbox hb; have HX := Aside0.mk hbox; replace HB := Aside0.mk (below_step (bel_later HB.out) hb); clear hb hg hbox)
    | ((with_reducible refine gate_dst (N := 3) rfl ?_); refine box_event ?hg (N := 3) ?hd (cs := eP q) (t := 42) ?hr ?_; (case hd => rfl); (case hg => rfl); (case hr => first | (go_simp; done) | (go_simp; rfl)); intro g3 hg w3 hbox hb; have HY := Aside0.mk hbox; replace HX := Aside0.mk (blk_below (blk_later HX.out) hb); replace HB := Aside0.mk (below_step (bel_later HB.out) hb); clear hb hg hbox))
  obtain ⟨S, hS⟩ : ∃ S : World → Prop, S = fun w' => w'.heap[g2]? = some (.cells (eP p) 42 (0, 0)) ∧ w'.heap[g3]? = some (.cells (eP q) 42 (0, 0)) ∧ Below w.heap.size w w' := ⟨_, rfl⟩
  have HSt := Aside0.mk (show ∀ a b : World, S a → Below a.heap.size a b → S b by
    intro a b h hb
    rw [hS] at h ⊢
    exact ⟨blk_below h.1 hb, blk_below h.2.1 hb, below_step h.2.2 hb⟩)
  have HSx := Aside0.mk (show ∀ x : World, S x → x.heap[g2]? = some (.cells (eP p) 42 (0, 0)) ∧ x.heap[g3]? = some (.cells (eP q) 42 (0, 0)) ∧ Below w.heap.size w x by
    intro b h
    rw [hS] at h
    exact h)
  have s0 : S w3.drew := by rw [hS]; exact ⟨blk_later HX.out, blk_later HY.out, bel_later HB.out⟩
  clear hS
  refine wp_region_held_drew (S := S) (by kernel_rfl) s0 (fun _ => ?_)
  refine anyH_world s0 (fun w5 s5 => ?_)
  clear s0
  have s0 := s5
  clear s5
  refine wpAnyH_take (i := 0) (v := .pointer (some ⟨g2, 0, none⟩)) rfl (by kernel_rfl) (by kernel_rfl) (by kernel_rfl) (fun _ _ _ h => h) (Or.inl ⟨by kernel_rfl, fun w' h => by first | (go_simp; done) | (go_simp; rfl)⟩) s0 ?_
  (try simp only [Act.put, List.setIfInBounds_toArray, List.set_cons_zero, List.set_cons_succ])
  refine wpAnyH_take (i := 1) (v := .agg (lA p.a).toArray) rfl ?z1b ?z1c ?z1d (fun _ _ _ h => h) ?z1e s0 ?z1f
  case z1b => kernel_rfl
  case z1c => kernel_rfl
  case z1d => kernel_rfl
  case z1e =>
    refine yieldsIf_load_mid ?z1g 30 (.tmp 5) ?z1h g2 0 ?z1i (lA p.a) _ ?z1j Tryz.underlying30 ?z1k (infoL HP.out)
    case z1g => kernel_rfl
    case z1h => kernel_rfl
    case z1i => kernel_rfl
    case z1k => kernel_rfl
    case z1j => exact fun w' h => part_addr (HSx.out w' h).1
  (try simp only [Act.put, List.setIfInBounds_toArray, List.set_cons_zero, List.set_cons_succ])
  refine wpAnyH_take (i := 2) (v := .pointer (some ⟨g3, 0, none⟩)) rfl (by kernel_rfl) (by kernel_rfl) (by kernel_rfl) (fun _ _ _ h => h) (Or.inl ⟨by kernel_rfl, fun w' h => by first | (go_simp; done) | (go_simp; rfl)⟩) s0 ?_
  (try simp only [Act.put, List.setIfInBounds_toArray, List.set_cons_zero, List.set_cons_succ])
  refine wpAnyH_take (i := 3) (v := .agg (lA q.a).toArray) rfl ?z3b ?z3c ?z3d (fun _ _ _ h => h) ?z3e s0 ?z3f
  case z3b => kernel_rfl
  case z3c => kernel_rfl
  case z3d => kernel_rfl
  case z3e =>
    refine yieldsIf_load_mid ?z3g 30 (.tmp 7) ?z3h g3 0 ?z3i (lA q.a) _ ?z3j Tryz.underlying30 ?z3k (infoL HQ.out)
    case z3g => kernel_rfl
    case z3h => kernel_rfl
    case z3i => kernel_rfl
    case z3k => kernel_rfl
    case z3j => exact fun w' h => part_addr (HSx.out w' h).2.1
  (try simp only [Act.put, List.setIfInBounds_toArray, List.set_cons_zero, List.set_cons_succ])
  refine wpAnyH_take (i := 5) (v := .pointer (some ⟨g2, 17, none⟩)) rfl (by kernel_rfl) (by kernel_rfl) (by kernel_rfl) (fun _ _ _ h => h) (Or.inl ⟨by kernel_rfl, fun w' h => by first | (go_simp; done) | (go_simp; rfl)⟩) s0 ?_
  (try simp only [Act.put, List.setIfInBounds_toArray, List.set_cons_zero, List.set_cons_succ])
  refine wpAnyH_take (i := 6) (v := .int .i64 p.n) rfl (by kernel_rfl) (by kernel_rfl) (by kernel_rfl) (fun _ _ _ h => h) (Or.inl ⟨by kernel_rfl, fun w' h => by have hf := (blk_cell (HSx.out w' h).1 17).trans (eP_n HP.out); first | (go_simp; done) | (go_simp; rfl)⟩) s0 ?_
  (try simp only [Act.put, List.setIfInBounds_toArray, List.set_cons_zero, List.set_cons_succ])
  refine wpAnyH_take (i := 7) (v := .pointer (some ⟨g3, 17, none⟩)) rfl (by kernel_rfl) (by kernel_rfl) (by kernel_rfl) (fun _ _ _ h => h) (Or.inl ⟨by kernel_rfl, fun w' h => by first | (go_simp; done) | (go_simp; rfl)⟩) s0 ?_
  (try simp only [Act.put, List.setIfInBounds_toArray, List.set_cons_zero, List.set_cons_succ])
  refine wpAnyH_take (i := 8) (v := .int .i64 q.n) rfl (by kernel_rfl) (by kernel_rfl) (by kernel_rfl) (fun _ _ _ h => h) (Or.inl ⟨by kernel_rfl, fun w' h => by have hf := (blk_cell (HSx.out w' h).2.1 17).trans (eP_n HQ.out); first | (go_simp; done) | (go_simp; rfl)⟩) s0 ?_
  (try simp only [Act.put, List.setIfInBounds_toArray, List.set_cons_zero, List.set_cons_succ])
  refine held_step (i := 4) (by kernel_rfl) rfl (by kernel_rfl) (fun K hK => ?_)
  go_wp2_with (go_at_call 108; refine (addr_Compare p.a q.a HP.out HQ.out w5).mono ?_; rintro e w6 ⟨rfl, hb⟩; have s2 := HSt.out _ _ s0 hb; clear hb)
  refine hK.out _ _ s2 ?_
  clear hK K
  (try simp only [Act.put, List.setIfInBounds_toArray, List.set_cons_zero, List.set_cons_succ])
  refine held_step (i := 9) (by kernel_rfl) rfl (by kernel_rfl) (fun K hK => ?_)
  go_wp2_with (go_at_call 109; refine (cmp_Compare _ _ _).mono ?_; rintro e w7 ⟨rfl, rfl⟩)
  refine hK.out _ _ s2 ?_
  clear hK K
  (try simp only [Act.put, List.setIfInBounds_toArray, List.set_cons_zero, List.set_cons_succ])
  refine held_step (i := 10) (by kernel_rfl) rfl (by kernel_rfl) (fun K hK => ?_)
  go_wp2
  have s1 := HSt.out _ _ s2 (below_alloc (Below.refl _ _) (Obj.cells #[.int .i64 (cmpA p.a q.a), .int .i64 (cmpI p.n q.n)] 3))
  refine hK.out _ _ s1 ?_
  clear hK K
  (try simp only [Act.put, List.setIfInBounds_toArray, List.set_cons_zero, List.set_cons_succ])
  refine held_step (i := 11) (by kernel_rfl) rfl (by kernel_rfl) (fun K hK => ?_)
  go_wp2_with (go_at_call 107; refine (cmp_Or w7.heap.size _ (cmpA p.a q.a) (cmpI p.n q.n) _ (heap_alloc_new _ _)).mono ?_; rintro e w8 ⟨rfl, rfl⟩)
  refine hK.out _ _ s1 ?_
  clear hK K
  (try simp only [Act.put, List.setIfInBounds_toArray, List.set_cons_zero, List.set_cons_succ])
  refine held_step (i := 12) (by kernel_rfl) rfl (by kernel_rfl) (fun K hK => ?_)
  go_wp2
  refine hK.out _ _ s1 ?_
  clear hK K
  (try simp only [Act.put, List.setIfInBounds_toArray, List.set_cons_zero, List.set_cons_succ])
  refine wpAnyH_done (by kernel_rfl) ?_ _
  have HF := Aside0.mk (HSx.out _ s1).2.2
  clear s0 s1 s2
  go_wp2
  go_ret
  exact ⟨by rw [HR.out]; first | done | rfl, HF.out⟩
end Go.Proofs.YthdognlkacjkhaaGreatDoor.P
end
