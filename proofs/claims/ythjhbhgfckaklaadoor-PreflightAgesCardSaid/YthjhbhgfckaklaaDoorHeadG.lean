/-
  head.Get: a range over head.of that returns.
-/
import Derived.Test.YthjhbhgfckaklaaDoorHeadA
namespace Go.Proofs.YthjhbhgfckaklaaDoor.P
open Go.RowKit Go.Shelf Go.Proofs.YthjhbhgfckaklaaDoorW.PrintWords Go.Proofs.YthjhbhgfckaklaaDoorW.PrintLast Go.Proofs.YthjhbhgfckaklaaDoorW.PrintMore
set_option linter.unusedVariables false
set_option linter.unusedSimpArgs false
attribute [local go_sem] Oper.semAt_some
theorem pure_from {β : Type} {B : Nat} (p : β → Prop) : OwnFrom B (fun s (_ : World) => p s) := fun _ _ _ _ h _ _ => h
theorem below_cell {n : Nat} {w W : World} {b : Nat} {v : Value} (h : Below n w W) (hb : n ≤ b) : Below n w (W.setCell ⟨b, 0, none⟩ v) :=
  h.trans ⟨rfl, rfl, rfl, (KeepsWalks.setCell W _ v).size, fun k hk => Below.heap_setCell W _ v k (by show k ≠ b; omega)⟩
theorem box_put {W : World} {B D : Nat} {t : TypeId} {v : Value} {o' : Obj} {ds : Option (List Deferred)} (h : Boxed W B t v) (hD : W.heap[D]? = some (.deferred ds)) : Boxed (W.putObj D o') B t v :=
  h.kept (grownBy_putObj' W D o') (fun e => by injection e with e; subst e; rw [show W.heap[B]? = _ from h] at hD; cases hD)
theorem results_two {fn : Func} {p q : Tmp} (h : fn.results = #[.cell p 9, .cell q 4]) (tmps : Array Value) (w : World) (g1 g2 : Nat) {s : ByteArray} {b : Bool}
    (hp : tmps.getD p undef = .pointer (some ⟨g1, 0, none⟩)) (hq : tmps.getD q undef = .pointer (some ⟨g2, 0, none⟩)) (h1 : Boxed w g1 9 (.string s)) (h2 : Boxed w g2 4 (.bool b)) :
    (results fn tmps).run Tryd.prog w = .ok (.tuple #[.string s, .bool b]) w := by
  have hp' : tmps[p]?.getD undef = .pointer (some ⟨g1, 0, none⟩) := by simpa using hp
  have hq' : tmps[q]?.getD undef = .pointer (some ⟨g2, 0, none⟩) := by simpa using hq
  have c1 := h1.cell
  have c2 := h2.cell
  simp [results, h, hp', hq', asAddr, loadVar, c1, c2, go_sem]
def firstV : List (Nat × S25) → ByteArray × Bool
  | [] => (⟨#[]⟩, false)
  | x :: _ => (x.2.f1, true)
-- EXT abatis/head.Get {"rounds": 0, "making": 1}
def head_Get.f (l0 : List S25) (a1 : ByteArray) : Option (ByteArray × Bool) := if l0.length ≤ 1000000 then (ofList a1 l0 0).bind fun r => some (firstV r) else none
set_option maxRecDepth 100000 in
set_option maxHeartbeats 4000000 in
theorem get_calls (A0 : Option Addr) (c0 : Nat) (l0 : List S25) (a1 : ByteArray) (r : ByteArray × Bool) (w : World) (hr0 : Kd.C k25 w A0 l0.length l0) (hc0 : l0.length ≤ c0) (h : head_Get.f l0 a1 = some r) :
    Calls Tryd.prog 60 #[.slice A0 l0.length c0, .string a1] w fun e w' => e = .returned (.tuple #[.string r.1, .bool r.2]) ∧ Below w.heap.size w w' := by
  unfold head_Get.f at h
  split at h
  case isFalse => exact absurd h (by simp)
  rename_i hs
  obtain ⟨xs, hxs, h⟩ := Option.bind_eq_some_iff.mp h
  have HXS := Aside0.mk hxs
  have HR := Aside0.mk (Option.some.inj h)
  have HR0 := Aside0.mk hr0
  clear h hs hxs hr0 hc0
  refine (callsIn_wide (n := 9)).1 ?_
  refine callsIn_of_wp_marks Tryd.func60 rfl trivial ?_ rfl
  simp only [Tryd.ntmps60, List.size_toArray, List.length_cons, List.length_nil, Nat.reduceAdd, Nat.reduceSub, Array.replicate_succ, Array.replicate_zero, List.push_toArray, List.append_toArray, List.nil_append, List.cons_append]
  gi_wp2_with (refine ⟨trivial, ?_⟩; gi_at_call 93; refine (of_in _ _ _ _ _ _).mono ?_; rintro e w' ⟨rfl, rfl⟩)
  have bV := (((Boxed.new w 9 (.string ⟨#[]⟩)).alloc (.cells #[.bool false] 4)).alloc (.cells #[.slice A0 l0.length c0] 22)).alloc (.cells #[.string a1] 9)
  have bO := ((Boxed.new (w.alloc (.cells #[.string ⟨#[]⟩] 9)) 4 (.bool false)).alloc (.cells #[.slice A0 l0.length c0] 22)).alloc (.cells #[.string a1] 9)
  have bL := (Boxed.new ((w.alloc (.cells #[.string ⟨#[]⟩] 9)).alloc (.cells #[.bool false] 4)) 22 (.slice A0 l0.length c0)).alloc (.cells #[.string a1] 9)
  have bN := Boxed.new (((w.alloc (.cells #[.string ⟨#[]⟩] 9)).alloc (.cells #[.bool false] 4)).alloc (.cells #[.slice A0 l0.length c0] 22)) 9 (.string a1)
  simp only [World.size_alloc] at bV bO bL bN
  have hB0 : Below w.heap.size w ((((w.alloc (.cells #[.string ⟨#[]⟩] 9)).alloc (.cells #[.bool false] 4)).alloc (.cells #[.slice A0 l0.length c0] 22)).alloc (.cells #[.string a1] 9)) := ((((Below.refl _ w).alloc (Nat.le_refl _) _).alloc (by simp) _).alloc (by simp; omega) _).alloc (by simp; omega) _
  have hsz : ((((w.alloc (.cells #[.string ⟨#[]⟩] 9)).alloc (.cells #[.bool false] 4)).alloc (.cells #[.slice A0 l0.length c0] 22)).alloc (.cells #[.string a1] 9)).heap.size = w.heap.size + 4 := by simp
  obtain ⟨W0, hW0⟩ : ∃ W0, (((w.alloc (.cells #[.string ⟨#[]⟩] 9)).alloc (.cells #[.bool false] 4)).alloc (.cells #[.slice A0 l0.length c0] 22)).alloc (.cells #[.string a1] 9) = W0 := ⟨_, rfl⟩
  rw [hW0] at bV bO bL bN hB0 hsz ⊢
  clear hW0
  refine wpIn_rangeFunc_ownH rfl (by omega) (gf := 109) (lb := #[.pointer (some ⟨w.heap.size + 1 + 1, 0, none⟩), .pointer (some ⟨w.heap.size + 1 + 1 + 1, 0, none⟩)]) rfl trivial (enters_of Tryd.func109 (by kernel_rfl) rfl)
    (of_stops _ (by omega) (w.heap.size + 1 + 1) (w.heap.size + 1 + 1 + 1) w A0 c0 l0 a1 xs HR0.out HXS.out W0 hB0 bL bN) kp_t (kp_b (by omega) (by omega)) (Below.refl _ _) (fun _ => rfl)
    (fun pre W => pre = [] ∧ (Boxed W w.heap.size 9 (.string ⟨#[]⟩) ∧ (Boxed W (w.heap.size + 1) 4 (.bool false) ∧ (Boxed W (w.heap.size + 1 + 1 + 1) 9 (.string a1) ∧ Below w.heap.size w W))))
    (fun c pre W => (c = .ret ∧ pre.length = 1) ∧ (Boxed W w.heap.size 9 (.string (firstV pre).1) ∧ (Boxed W (w.heap.size + 1) 4 (.bool true) ∧ Below w.heap.size w W)))
    (OwnFrom.and (pure_from _) (OwnFrom.and (Own.from (boxed_own _ _ _) _) (OwnFrom.and (Own.from (boxed_own _ _ _) _) (OwnFrom.and (Own.from (boxed_own _ _ _) _) (ownFrom_below (Nat.le_refl _) (by omega))))))
    (fun c => OwnFrom.and (pure_from _) (OwnFrom.and (Own.from (boxed_own _ _ (fun pre => .string (firstV pre).1)) _) (OwnFrom.and (Own.from (boxed_own _ _ _) _) (ownFrom_below (Nat.le_refl _) (by omega)))))
    ⟨rfl, bV, bO, bN, hB0⟩
    (fun x a' W => ∃ Bx, w.heap.size + 2 < Bx ∧ W.heap[Bx]? = some (.cells #[.string x.2.f0, .string x.2.f1] 25 (0, 0)) ∧ a' = { tmps := #[.slice A0 l0.length c0, .string a1, undef, undef, .pointer (some ⟨w.heap.size, 0, none⟩), .pointer (some ⟨w.heap.size + 1, 0, none⟩), undef, .pointer (some ⟨Bx, 0, none⟩), .slice A0 l0.length c0, .string a1, .func (.func 109) #[] #[.pointer (some ⟨w.heap.size + 1 + 1, 0, none⟩), .pointer (some ⟨w.heap.size + 1 + 1 + 1, 0, none⟩)], .int .i64 (x.1 : Int), .agg #[.string x.2.f0, .string x.2.f1], undef, undef], defers := [] })
    (fun x a' _ X Y row hs hg hr => by obtain ⟨Bx, h1, h2, h3⟩ := hs; exact ⟨Bx, h1, cells_kept h2 hg (fun r e => (hr r e).2), h3⟩)
    ?assign ?body ?done ?stop
  case assign =>
    rintro l pre x W K ⟨hpre, bV, bO, bN1, hB1⟩ hK
    have hlt := bN1.lt
    dsimp only [encH]
    gi_wp2
    exact hK _ _ ((KeepsOthers.alloc _ _).from _) ⟨(Below.refl _ W).alloc hB1.size _, Below.heap_alloc _ _ _ bN1.lt⟩ ⟨hpre, bV.alloc _, bO.alloc _, bN1.alloc _, hB1.alloc hB1.size _⟩ ⟨W.heap.size, by omega, World.alloc_heap_new W _, rfl⟩
  case body =>
    rintro l pre x a' W hl hrl ⟨rfl, bV, bO, bN1, hB1⟩ ⟨Bx, hBx, bX, rfl⟩ hlt
    have hx1 : W.cell? ⟨Bx, 1, none⟩ = some (.string x.2.f1) := by simp [World.cell?, bX]
    have hc0 := bV.cell
    have hf0 := bV.frozen
    have hc1 := bO.cell
    have hf1 := bO.frozen
    gi_wp2
    refine ⟨((KeepsOthers.setCell _ _ _).trans (KeepsOthers.setCell _ _ _)).from _, ⟨rfl, rfl⟩, (bV.set _).other (by omega) _, (bO.other (by omega) _).set _, below_cell (below_cell hB1 (by omega)) (by omega)⟩
  case done =>
    rintro D ys W hD rfl ⟨rfl, bV, bO, bN1, hB1⟩ hK
    have hc0 := bV.cell
    have hf0 := bV.frozen
    have hc1 := bO.cell
    have hf1 := bO.frozen
    have hv2 := (bV.set (.string ⟨#[]⟩)).other (B' := w.heap.size + 1) (by omega) (.bool false)
    have ho2 := (bO.other (B' := w.heap.size) (by omega) (.string ⟨#[]⟩)).set (.bool false)
    have hB2 := below_cell (below_cell hB1 (b := w.heap.size) (v := .string ⟨#[]⟩) (by omega)) (b := w.heap.size + 1) (v := .bool false) (by omega)
    have hK2 : ((W.setCell ⟨w.heap.size, 0, none⟩ (.string ⟨#[]⟩)).setCell ⟨w.heap.size + 1, 0, none⟩ (.bool false)).heap[D]? = some (.deferred (some [])) := ((Below.heap_setCell _ _ _ D (by show D ≠ w.heap.size + 1; omega)).trans (Below.heap_setCell _ _ _ D (by show D ≠ w.heap.size; omega))).trans hK
    gi_wp2
    refine ⟨by simp, .inl ⟨_, _, rfl, run_takeDeferred hK2, ?_⟩⟩
    exact ⟨_, results_two rfl _ _ _ _ (by rfl) (by rfl) (box_put hv2 hK2) (box_put ho2 hK2), by rw [← HR.out]; rfl, hB2.trans (belowK_b (w := w) (Nat.le_refl _) _ D _ _ (by omega) hK2 rfl rfl)⟩
  case stop =>
    rintro D c pre W hD hpre ⟨⟨rfl, hp1⟩, bV, bO, hB1⟩ hK
    gi_wp2
    refine ⟨by simp, .inl ⟨_, _, rfl, run_takeDeferred hK, ?_⟩⟩
    refine ⟨_, results_two rfl _ _ _ _ (by rfl) (by rfl) (box_put bV hK) (box_put bO hK), ?_, hB1.trans (belowK_b (w := w) (Nat.le_refl _) _ D _ _ (by omega) hK rfl rfl)⟩
    obtain ⟨ys, rfl⟩ := hpre
    match pre, hp1 with
    | [x], _ => rw [← HR.out]; rfl
theorem head_Get.calls (A0 : Option Addr) (c0 : Nat) (l0 : List S25) (a1 : ByteArray) (r1 : ByteArray) (r2 : Bool) (w : World) (hr0 : Kd.C k25 w A0 l0.length l0) (hc0 : l0.length ≤ c0) (h : head_Get.f l0 a1 = some (r1, r2)) :
    Calls Tryd.prog 60 #[.slice A0 l0.length c0, .string a1] w fun e w' => e = .returned (.tuple #[.string r1, .bool r2]) ∧ Below w.heap.size w w' := get_calls A0 c0 l0 a1 (r1, r2) w hr0 hc0 h
end Go.Proofs.YthjhbhgfckaklaaDoor.P
