/-
  Texts of the proof, put together.
-/
import Derived.Test.YthdognlkacjkhaaGreatDoorSpaE
import Derived.Test.YthdognlkacjkhaaGreatDoorSpaB
section
namespace Go.Proofs.YthdognlkacjkhaaGreatDoor.P
open Go.RowKit Go.Proofs.YthdognlkacjkhaaGreatDoorW.PrintWords Go.Proofs.YthdognlkacjkhaaGreatDoorW.PrintLast Go.Proofs.YthdognlkacjkhaaGreatDoorW.PrintMore
set_option linter.unusedVariables false
set_option linter.unusedSimpArgs false
theorem row_nil' (last : Bool) (w : World) : Calls Tryz.prog 98 #[.string ⟨#[]⟩, .bool last] w fun e w' => e = .returned (.tuple #[.slice none 0 0, .bool true]) ∧ Below w.heap.size w w' := by
  have HB := Aside0.mk (Below.refl w.heap.size w)
  go_enter Tryz.func98, Tryz.ntmps98
  go_wp2
  go_ret2
  exact ⟨rfl, HB.out⟩
theorem row_one' (p : ByteArray) (n : Int) (hp : Group p n) (last : Bool) (w : World) (hmx : MaxIs w) : Calls Tryz.prog 98 #[.string p, .bool last] w fun e w' => ∃ g cap, e = .returned (.tuple #[.slice (some ⟨g, 0, none⟩) 1 cap, .bool true]) ∧ w'.cell? ⟨g, 0, none⟩ = some (.int .u16 n) ∧ Below w.heap.size w w' :=
  (row_one p n hp last w hmx).mono fun e w' ⟨v, he, ho, hb⟩ => by
    rcases ho.2 with ⟨rfl, h0⟩ | ⟨g, cap, cur, rfl, _⟩
    · cases h0
    · refine ⟨g, cap, he, ?_, hb⟩
      have := ho.cells (g := g) rfl 0 (.int .u16 n) rfl
      rw [Addr.add_mid] at this
      exact this
def e8 (l : List Int) : Array Value := (l.map (Value.int .u16)).toArray
def zr8 : List Int := [0, 0, 0, 0, 0, 0, 0, 0]
theorem e8_one (l : List Int) : (e8 l).all (·.oneCell') = true := by
  unfold e8
  rw [Array.all_eq_true_iff_forall_mem]
  intro v hv
  simp only [List.mem_toArray, List.mem_map] at hv
  obtain ⟨x, _, rfl⟩ := hv
  rfl
theorem inf8 {l : List Int} (h : l.length = 8) : (Tryz.prog.info? 76).map (·.size) = some (e8 l).size := by
  have h8 : (Tryz.prog.info? 76).map (·.size) = some 8 := by kernel_rfl
  rw [h8]
  unfold e8
  rw [List.size_toArray, List.length_map, h]
set_option maxHeartbeats 4000000 in
set_option maxRecDepth 100000 in
theorem six_Parse_ob (s y : ByteArray) (n : Int) (hg : Group y n) (hc : strings_Cut.f s ⟨#[58, 58]⟩ = some (⟨#[]⟩, y, true)) (w : World) (hmx : MaxIs w) :
    Calls Tryz.prog 65 #[.string s] w fun e w' => e = .returned (.tuple #[.agg (e8 [0, 0, 0, 0, 0, 0, 0, n]), .bool true]) ∧ Below w.heap.size w w' := by
  have HB := Aside0.mk (Below.refl w.heap.size w)
  have HMX := Aside0.mk hmx
  have HC := Aside0.mk hc
  have HG := Aside0.mk hg
  clear hg
  clear hc hmx
  go_enter Tryz.func65, Tryz.ntmps65
  have hcn : ∀ (w : World) (a : Addr) (l c : Nat), (Builtin.copy_ #[148, 148] 3 #[.slice (some a) l c, .slice none 0 0]).run Tryz.prog w = .ok (goInt 0) w := fun w a l c => run_copy_nil Tryz.prog w _ _ _ _ a l c Tryz.underlying148 (by kernel_rfl)
  go_wp2_with (first
    | ((with_reducible refine gate_dst (N := 2) rfl ?_); refine box_event ?hg (N := 2) ?hd (cs := e8 zr8) (t := 76) ?hr ?_; (case hd => rfl); (case hg => rfl); (case hr => first | (go_simp; done) | (go_simp; rfl)); intro g2 hg w2 hbox hb; have H2 := Aside0.mk hbox; have HG2 := Aside0.mk (show w.heap.size ≤ g2 by rw [hg]; exact below_size (bel_later HB.out)); skip; replace HB := Aside0.mk (below_step (bel_later HB.out) hb); clear hb hg hbox)
    | ((with_reducible refine gate_dst (N := 4) rfl ?_); refine box_event ?hg (N := 4) ?hd (cs := e8 zr8) (t := 76) ?hr ?_; (case hd => rfl); (case hg => rfl); (case hr => first | (go_simp; done) | (go_simp; rfl)); intro g4 hg w4 hbox hb; have H4 := Aside0.mk hbox; have HG4 := Aside0.mk (show w.heap.size ≤ g4 by rw [hg]; exact below_size (bel_later HB.out)); have HN24 := Aside0.mk (show g2 ≠ g4 by rw [hg]; exact Nat.ne_of_lt (blk_lt (blk_later H2.out))); replace H2 := Aside0.mk (blk_below (blk_later H2.out) hb); replace HB := Aside0.mk (below_step (bel_later HB.out) hb); clear hb hg hbox)
    | (go_at_call 97; refine (strings_Cut.calls s ⟨#[58, 58]⟩ _ _ _ _ (maxis_below HMX.out (bel_later HB.out)) HC.out).mono ?_; rintro e w5 ⟨rfl, hb⟩; replace H2 := Aside0.mk (blk_below (blk_later H2.out) hb); replace H4 := Aside0.mk (blk_below (blk_later H4.out) hb); replace HB := Aside0.mk (below_step (bel_later HB.out) hb); clear hb)
    | (go_at_call 98; with_reducible refine (row_nil' false _).mono ?_; rintro e wa ⟨rfl, hb⟩; replace H2 := Aside0.mk (blk_below H2.out hb); replace H4 := Aside0.mk (blk_below H4.out hb); replace HB := Aside0.mk (below_step HB.out hb); clear hb)
    | (go_at_call 98; with_reducible refine (row_one' y n HG.out true _ (maxis_below HMX.out HB.out)).mono ?_; rintro e wb ⟨g5, cap, rfl, hcx, hb⟩; have HX := Aside0.mk hcx; have HNX := Aside0.mk (show g4 ≠ g5 ∨ True from .inr trivial); replace H2 := Aside0.mk (blk_below H2.out hb); replace H4 := Aside0.mk (blk_below H4.out hb); replace HB := Aside0.mk (below_step HB.out hb); clear hb hcx)
    | ((with_reducible refine gate_dst (N := 66) rfl ?_); have hcp := Aside0.mk (run_copy_row (P := Tryz.prog) wb 148 148 3 75 g4 7 1 1 ⟨g5, 0, none⟩ 1 cap (e8 zr8) 76 [.int .u16 n] Tryz.underlying148 (by kernel_rfl) H4.out rfl (fun j v hv => by match j, hv with | 0, hv => rw [Addr.add_mid]; exact HX.out.trans hv) (show 7 + 1 ≤ 8 by decide) (fun v hv => by rw [List.mem_singleton] at hv; subst hv; rfl)); have HW := Aside0.mk (show ((e8 zr8).toList.take 7 ++ ([.int .u16 n] : List Value) ++ (e8 zr8).toList.drop (7 + ([.int .u16 n] : List Value).length)).toArray = e8 [0, 0, 0, 0, 0, 0, 0, n] from rfl); rw [HW.out] at hcp; refine wpList_plain rfl (fun K hK => wp_copy_runA wb (.tmp 64) (.tmp 65) 148 148 rfl _ _ rfl rfl hcp.out (hK _ _ ?_)); replace H2 := Aside0.mk ((row_far (cells := e8 [0, 0, 0, 0, 0, 0, 0, n]) HN24.out).trans H2.out); replace H4 := Aside0.mk (row_new (cells := e8 [0, 0, 0, 0, 0, 0, 0, n]) H4.out); replace HB := Aside0.mk (below_row HB.out HG4.out (e8 [0, 0, 0, 0, 0, 0, 0, n])); clear hcp HW; generalize wb.setRow g4 (e8 [0, 0, 0, 0, 0, 0, 0, n]) = wc at H2 H4 HB ⊢)
    | ((with_reducible refine gate_dst (N := 67) rfl ?_); refine wpList_load_row rfl 76 (.tmp 4) rfl g4 rfl 76 (e8 [0, 0, 0, 0, 0, 0, 0, n]) (0, 0) _ H4.out Tryz.underlying76 rfl (inf8 rfl) ?_)
    | ((with_reducible refine gate_store (t := 76) (p := 2) rfl ?_); refine wpList_store_row rfl 76 (.tmp 2) (.tmp 67) rfl g2 (e8 [0, 0, 0, 0, 0, 0, 0, n]) rfl rfl 76 (e8 zr8) H2.out (inf8 rfl) rfl (e8_one _) ?_; replace H2 := Aside0.mk (row_new (cells := e8 [0, 0, 0, 0, 0, 0, 0, n]) H2.out); replace HB := Aside0.mk (below_row HB.out HG2.out (e8 [0, 0, 0, 0, 0, 0, 0, n])); generalize wc.setRow g2 (e8 [0, 0, 0, 0, 0, 0, 0, n]) = wd at H2 HB ⊢))
  refine bodyPost_ret (results_cell_tmp rfl _ _ g2 76 (e8 [0, 0, 0, 0, 0, 0, 0, n]) (0, 0) _ rfl H2.out Tryz.underlying76 rfl (inf8 rfl)) rfl ?_
  exact ⟨rfl, HB.out⟩
set_option maxHeartbeats 4000000 in
set_option maxRecDepth 100000 in
theorem six_Parse_oo (s : ByteArray) (hc : strings_Cut.f s ⟨#[58, 58]⟩ = some (⟨#[]⟩, ⟨#[]⟩, true)) (w : World) (hmx : MaxIs w) :
    Calls Tryz.prog 65 #[.string s] w fun e w' => e = .returned (.tuple #[.agg (e8 zr8), .bool true]) ∧ Below w.heap.size w w' := by
  have HB := Aside0.mk (Below.refl w.heap.size w)
  have HMX := Aside0.mk hmx
  have HC := Aside0.mk hc
  clear hc hmx
  go_enter Tryz.func65, Tryz.ntmps65
  have hcn : ∀ (w : World) (a : Addr) (l c : Nat), (Builtin.copy_ #[148, 148] 3 #[.slice (some a) l c, .slice none 0 0]).run Tryz.prog w = .ok (goInt 0) w := fun w a l c => run_copy_nil Tryz.prog w _ _ _ _ a l c Tryz.underlying148 (by kernel_rfl)
  go_wp2_with (first
    | ((with_reducible refine gate_dst (N := 2) rfl ?_); refine box_event ?hg (N := 2) ?hd (cs := e8 zr8) (t := 76) ?hr ?_; (case hd => rfl); (case hg => rfl); (case hr => first | (go_simp; done) | (go_simp; rfl)); intro g2 hg w2 hbox hb; have H2 := Aside0.mk hbox; have HG2 := Aside0.mk (show w.heap.size ≤ g2 by rw [hg]; exact below_size (bel_later HB.out)); skip; replace HB := Aside0.mk (below_step (bel_later HB.out) hb); clear hb hg hbox)
    | ((with_reducible refine gate_dst (N := 4) rfl ?_); refine box_event ?hg (N := 4) ?hd (cs := e8 zr8) (t := 76) ?hr ?_; (case hd => rfl); (case hg => rfl); (case hr => first | (go_simp; done) | (go_simp; rfl)); intro g4 hg w4 hbox hb; have H4 := Aside0.mk hbox; have HG4 := Aside0.mk (show w.heap.size ≤ g4 by rw [hg]; exact below_size (bel_later HB.out)); have HN24 := Aside0.mk (show g2 ≠ g4 by rw [hg]; exact Nat.ne_of_lt (blk_lt (blk_later H2.out))); replace H2 := Aside0.mk (blk_below (blk_later H2.out) hb); replace HB := Aside0.mk (below_step (bel_later HB.out) hb); clear hb hg hbox)
    | (go_at_call 97; refine (strings_Cut.calls s ⟨#[58, 58]⟩ _ _ _ _ (maxis_below HMX.out (bel_later HB.out)) HC.out).mono ?_; rintro e w5 ⟨rfl, hb⟩; replace H2 := Aside0.mk (blk_below (blk_later H2.out) hb); replace H4 := Aside0.mk (blk_below (blk_later H4.out) hb); replace HB := Aside0.mk (below_step (bel_later HB.out) hb); clear hb)
    | (go_at_call 98; with_reducible refine (row_nil' false _).mono ?_; rintro e wa ⟨rfl, hb⟩; replace H2 := Aside0.mk (blk_below H2.out hb); replace H4 := Aside0.mk (blk_below H4.out hb); replace HB := Aside0.mk (below_step HB.out hb); clear hb)
    | (go_at_call 98; with_reducible refine (row_nil' true _).mono ?_; rintro e wb ⟨rfl, hb⟩; replace H2 := Aside0.mk (blk_below H2.out hb); replace H4 := Aside0.mk (blk_below H4.out hb); replace HB := Aside0.mk (below_step HB.out hb); clear hb)
    | ((with_reducible refine gate_dst (N := 67) rfl ?_); refine wpList_load_row rfl 76 (.tmp 4) rfl g4 rfl 76 (e8 zr8) (0, 0) _ H4.out Tryz.underlying76 rfl (inf8 rfl) ?_)
    | ((with_reducible refine gate_store (t := 76) (p := 2) rfl ?_); refine wpList_store_row rfl 76 (.tmp 2) (.tmp 67) rfl g2 (e8 zr8) rfl rfl 76 (e8 zr8) H2.out (inf8 rfl) rfl (e8_one _) ?_; replace H2 := Aside0.mk (row_new (cells := e8 zr8) H2.out); replace HB := Aside0.mk (below_row HB.out HG2.out (e8 zr8)); generalize wb.setRow g2 (e8 zr8) = wd at H2 HB ⊢))
  refine bodyPost_ret (results_cell_tmp rfl _ _ g2 76 (e8 zr8) (0, 0) _ rfl H2.out Tryz.underlying76 rfl (inf8 rfl)) rfl ?_
  exact ⟨rfl, HB.out⟩
set_option maxHeartbeats 4000000 in
set_option maxRecDepth 100000 in
theorem six_Parse_ao (s x : ByteArray) (n : Int) (hg : Group x n) (hc : strings_Cut.f s ⟨#[58, 58]⟩ = some (x, ⟨#[]⟩, true)) (w : World) (hmx : MaxIs w) :
    Calls Tryz.prog 65 #[.string s] w fun e w' => e = .returned (.tuple #[.agg (e8 [n, 0, 0, 0, 0, 0, 0, 0]), .bool true]) ∧ Below w.heap.size w w' := by
  have HB := Aside0.mk (Below.refl w.heap.size w)
  have HMX := Aside0.mk hmx
  have HC := Aside0.mk hc
  have HG := Aside0.mk hg
  clear hg
  clear hc hmx
  go_enter Tryz.func65, Tryz.ntmps65
  have hcn : ∀ (w : World) (a : Addr) (l c : Nat), (Builtin.copy_ #[148, 148] 3 #[.slice (some a) l c, .slice none 0 0]).run Tryz.prog w = .ok (goInt 0) w := fun w a l c => run_copy_nil Tryz.prog w _ _ _ _ a l c Tryz.underlying148 (by kernel_rfl)
  go_wp2_with (first
    | ((with_reducible refine gate_dst (N := 2) rfl ?_); refine box_event ?hg (N := 2) ?hd (cs := e8 zr8) (t := 76) ?hr ?_; (case hd => rfl); (case hg => rfl); (case hr => first | (go_simp; done) | (go_simp; rfl)); intro g2 hg w2 hbox hb; have H2 := Aside0.mk hbox; have HG2 := Aside0.mk (show w.heap.size ≤ g2 by rw [hg]; exact below_size (bel_later HB.out)); skip; replace HB := Aside0.mk (below_step (bel_later HB.out) hb); clear hb hg hbox)
    | ((with_reducible refine gate_dst (N := 4) rfl ?_); refine box_event ?hg (N := 4) ?hd (cs := e8 zr8) (t := 76) ?hr ?_; (case hd => rfl); (case hg => rfl); (case hr => first | (go_simp; done) | (go_simp; rfl)); intro g4 hg w4 hbox hb; have H4 := Aside0.mk hbox; have HG4 := Aside0.mk (show w.heap.size ≤ g4 by rw [hg]; exact below_size (bel_later HB.out)); have HN24 := Aside0.mk (show g2 ≠ g4 by rw [hg]; exact Nat.ne_of_lt (blk_lt (blk_later H2.out))); replace H2 := Aside0.mk (blk_below (blk_later H2.out) hb); replace HB := Aside0.mk (below_step (bel_later HB.out) hb); clear hb hg hbox)
    | (go_at_call 97; refine (strings_Cut.calls s ⟨#[58, 58]⟩ _ _ _ _ (maxis_below HMX.out (bel_later HB.out)) HC.out).mono ?_; rintro e w5 ⟨rfl, hb⟩; replace H2 := Aside0.mk (blk_below (blk_later H2.out) hb); replace H4 := Aside0.mk (blk_below (blk_later H4.out) hb); replace HB := Aside0.mk (below_step (bel_later HB.out) hb); clear hb)
    | (go_at_call 98; with_reducible refine (row_one' x n HG.out false _ (maxis_below HMX.out HB.out)).mono ?_; rintro e wa ⟨g5, cap, rfl, hcx, hb⟩; have HX := Aside0.mk hcx; have HNX := Aside0.mk (show g4 ≠ g5 ∨ True from .inr trivial); replace H2 := Aside0.mk (blk_below H2.out hb); replace H4 := Aside0.mk (blk_below H4.out hb); replace HB := Aside0.mk (below_step HB.out hb); clear hb hcx)
    | (go_at_call 98; with_reducible refine (row_nil' true _).mono ?_; rintro e wb ⟨rfl, hb⟩; replace HX := Aside0.mk (cell_below HX.out hb); replace H2 := Aside0.mk (blk_below H2.out hb); replace H4 := Aside0.mk (blk_below H4.out hb); replace HB := Aside0.mk (below_step HB.out hb); clear hb)
    | ((with_reducible refine gate_dst (N := 60) rfl ?_); have hcp := Aside0.mk (run_copy_row (P := Tryz.prog) wb 148 148 3 75 g4 0 8 8 ⟨g5, 0, none⟩ 1 cap (e8 zr8) 76 [.int .u16 n] Tryz.underlying148 (by kernel_rfl) H4.out rfl (fun j v hv => by match j, hv with | 0, hv => rw [Addr.add_mid]; exact HX.out.trans hv) (show 0 + 1 ≤ 8 by decide) (fun v hv => by rw [List.mem_singleton] at hv; subst hv; rfl)); have HW := Aside0.mk (show ((e8 zr8).toList.take 0 ++ ([.int .u16 n] : List Value) ++ (e8 zr8).toList.drop (0 + ([.int .u16 n] : List Value).length)).toArray = e8 [n, 0, 0, 0, 0, 0, 0, 0] from rfl); rw [HW.out] at hcp; refine wpList_plain rfl (fun K hK => wp_copy_runA wb (.tmp 58) (.tmp 59) 148 148 rfl _ _ rfl rfl hcp.out (hK _ _ ?_)); replace H2 := Aside0.mk ((row_far (cells := e8 [n, 0, 0, 0, 0, 0, 0, 0]) HN24.out).trans H2.out); replace H4 := Aside0.mk (row_new (cells := e8 [n, 0, 0, 0, 0, 0, 0, 0]) H4.out); replace HB := Aside0.mk (below_row HB.out HG4.out (e8 [n, 0, 0, 0, 0, 0, 0, 0])); clear hcp HW; generalize wb.setRow g4 (e8 [n, 0, 0, 0, 0, 0, 0, 0]) = wc at H2 H4 HB ⊢)
    | ((with_reducible refine gate_dst (N := 67) rfl ?_); refine wpList_load_row rfl 76 (.tmp 4) rfl g4 rfl 76 (e8 [n, 0, 0, 0, 0, 0, 0, 0]) (0, 0) _ H4.out Tryz.underlying76 rfl (inf8 rfl) ?_)
    | ((with_reducible refine gate_store (t := 76) (p := 2) rfl ?_); refine wpList_store_row rfl 76 (.tmp 2) (.tmp 67) rfl g2 (e8 [n, 0, 0, 0, 0, 0, 0, 0]) rfl rfl 76 (e8 zr8) H2.out (inf8 rfl) rfl (e8_one _) ?_; replace H2 := Aside0.mk (row_new (cells := e8 [n, 0, 0, 0, 0, 0, 0, 0]) H2.out); replace HB := Aside0.mk (below_row HB.out HG2.out (e8 [n, 0, 0, 0, 0, 0, 0, 0])); generalize wc.setRow g2 (e8 [n, 0, 0, 0, 0, 0, 0, 0]) = wd at H2 HB ⊢))
  refine bodyPost_ret (results_cell_tmp rfl _ _ g2 76 (e8 [n, 0, 0, 0, 0, 0, 0, 0]) (0, 0) _ rfl H2.out Tryz.underlying76 rfl (inf8 rfl)) rfl ?_
  exact ⟨rfl, HB.out⟩
theorem inf16 {l : List Int} (h : l.length = 16) : (Tryz.prog.info? 28).map (·.size) = some (b4L l).size := by
  have h8 : (Tryz.prog.info? 28).map (·.size) = some 16 := by kernel_rfl
  rw [h8]
  unfold b4L
  rw [List.size_toArray, List.length_map, h]
theorem bdrew {B : Nat} {w W : World} (h : Below B w W) : Below B w W.drew := h.trans ⟨rfl, rfl, rfl, Nat.le_refl _, fun _ _ => rfl⟩
theorem cell_two (w : World) (k i j : Nat) (v : Value) (h : i ≠ j) : (w.setCell ⟨k, i, none⟩ v).cell? ⟨k, j, none⟩ = w.cell? ⟨k, j, none⟩ := World.cell?_setCell_other w _ _ v (by intro e; cases e; exact h rfl)
theorem froz_two (w : World) (k i j : Nat) (v : Value) {cs : Array Value} {t : TypeId} (h : w.heap[k]? = some (.cells cs t (0, 0))) : (w.setCell ⟨k, i, none⟩ v).frozen? ⟨k, j, none⟩ = false := blk_frozen (blk_put h i v rfl) j
set_option maxHeartbeats 8000000 in
set_option maxRecDepth 100000 in
theorem six_Bytes (g0 g1 g2 g3 g4 g5 g6 g7 : Int) (hr : ∀ x ∈ ([g0, g1, g2, g3, g4, g5, g6, g7] : List Int), 0 ≤ x ∧ x ≤ 65535) (w : World) : Calls Tryz.prog 99 #[.agg (e8 [g0, g1, g2, g3, g4, g5, g6, g7])] w fun e w' => e = .returned (.agg (b4L [g0 / 256 % 256, g0 % 256, g1 / 256 % 256, g1 % 256, g2 / 256 % 256, g2 % 256, g3 / 256 % 256, g3 % 256, g4 / 256 % 256, g4 % 256, g5 / 256 % 256, g5 % 256, g6 / 256 % 256, g6 % 256, g7 / 256 % 256, g7 % 256])) ∧ Below w.heap.size w w' := by
  have HB := Aside0.mk (Below.refl w.heap.size w)
  simp only [List.mem_cons, List.not_mem_nil, or_false, forall_eq_or_imp, forall_eq] at hr
  obtain ⟨r0, r1, r2, r3, r4, r5, r6, r7⟩ := hr
  have R0 := Aside0.mk r0
  have R1 := Aside0.mk r1
  have R2 := Aside0.mk r2
  have R3 := Aside0.mk r3
  have R4 := Aside0.mk r4
  have R5 := Aside0.mk r5
  have R6 := Aside0.mk r6
  have R7 := Aside0.mk r7
  clear r0 r1 r2 r3 r4 r5 r6 r7
  go_enter Tryz.func99, Tryz.ntmps99
  go_wp2_with (first
    | ((with_reducible refine gate_dst (N := 1) rfl ?_); refine box_event ?hg (N := 1) ?hd (cs := e8 [g0, g1, g2, g3, g4, g5, g6, g7]) (t := 76) ?hr ?_; (case hd => rfl); (case hg => rfl); (case hr => first | (go_simp; done) | (go_simp; rfl)); intro k1 hg w1 hbox hb; have H1 := Aside0.mk hbox; have HG1 := Aside0.mk (show w.heap.size ≤ k1 by rw [hg]; exact below_size (bel_later HB.out)); skip; replace HB := Aside0.mk (below_step (bel_later HB.out) hb); clear hb hg hbox)
    | ((with_reducible refine gate_dst (N := 2) rfl ?_); refine box_event ?hg (N := 2) ?hd (cs := b4L [0, 0, 0, 0, 0, 0, 0, 0, 0, 0, 0, 0, 0, 0, 0, 0]) (t := 28) ?hr ?_; (case hd => rfl); (case hg => rfl); (case hr => first | (go_simp; done) | (go_simp; rfl)); intro k2 hg w2 hbox hb; have H2 := Aside0.mk hbox; have HG2 := Aside0.mk (show w.heap.size ≤ k2 by rw [hg]; exact below_size (bel_later HB.out)); have HN12 := Aside0.mk (show k1 ≠ k2 by rw [hg]; exact Nat.ne_of_lt (blk_lt (blk_later H1.out))); replace H1 := Aside0.mk (blk_below (blk_later H1.out) hb); replace HB := Aside0.mk (below_step (bel_later HB.out) hb); clear hb hg hbox)
    | ((with_reducible refine gate_dst (N := 3) rfl ?_); refine box_event ?hg (N := 3) ?hd (cs := b4L [0, 0, 0, 0, 0, 0, 0, 0, 0, 0, 0, 0, 0, 0, 0, 0]) (t := 28) ?hr ?_; (case hd => rfl); (case hg => rfl); (case hr => first | (go_simp; done) | (go_simp; rfl)); intro k3 hg w3 hbox hb; have H3 := Aside0.mk hbox; have HG3 := Aside0.mk (show w.heap.size ≤ k3 by rw [hg]; exact below_size (bel_later HB.out)); have HN3 := Aside0.mk (show k1 ≠ k3 ∧ k2 ≠ k3 by rw [hg]; exact ⟨Nat.ne_of_lt (blk_lt (blk_later H1.out)), Nat.ne_of_lt (blk_lt (blk_later H2.out))⟩); replace H1 := Aside0.mk (blk_below (blk_later H1.out) hb); replace H2 := Aside0.mk (blk_below (blk_later H2.out) hb); replace HB := Aside0.mk (below_step (bel_later HB.out) hb); clear hb hg hbox))
  go_loopw [5] (fun v5 wr => ∃ i : Nat, v5 = .int .i64 (i : Int) ∧ Aside0 (i ≤ 8) ∧ Aside0 (wr.heap[k1]? = some (.cells (e8 [g0, g1, g2, g3, g4, g5, g6, g7]) 76 (0, 0)) ∧ wr.heap[k2]? = some (.cells (b4L [0, 0, 0, 0, 0, 0, 0, 0, 0, 0, 0, 0, 0, 0, 0, 0]) 28 (0, 0)) ∧ wr.heap[k3]? = some (.cells (b4L (if i = 0 then [0, 0, 0, 0, 0, 0, 0, 0, 0, 0, 0, 0, 0, 0, 0, 0] else if i = 1 then [g0 / 256 % 256, g0 % 256, 0, 0, 0, 0, 0, 0, 0, 0, 0, 0, 0, 0, 0, 0] else if i = 2 then [g0 / 256 % 256, g0 % 256, g1 / 256 % 256, g1 % 256, 0, 0, 0, 0, 0, 0, 0, 0, 0, 0, 0, 0] else if i = 3 then [g0 / 256 % 256, g0 % 256, g1 / 256 % 256, g1 % 256, g2 / 256 % 256, g2 % 256, 0, 0, 0, 0, 0, 0, 0, 0, 0, 0] else if i = 4 then [g0 / 256 % 256, g0 % 256, g1 / 256 % 256, g1 % 256, g2 / 256 % 256, g2 % 256, g3 / 256 % 256, g3 % 256, 0, 0, 0, 0, 0, 0, 0, 0] else if i = 5 then [g0 / 256 % 256, g0 % 256, g1 / 256 % 256, g1 % 256, g2 / 256 % 256, g2 % 256, g3 / 256 % 256, g3 % 256, g4 / 256 % 256, g4 % 256, 0, 0, 0, 0, 0, 0] else if i = 6 then [g0 / 256 % 256, g0 % 256, g1 / 256 % 256, g1 % 256, g2 / 256 % 256, g2 % 256, g3 / 256 % 256, g3 % 256, g4 / 256 % 256, g4 % 256, g5 / 256 % 256, g5 % 256, 0, 0, 0, 0] else if i = 7 then [g0 / 256 % 256, g0 % 256, g1 / 256 % 256, g1 % 256, g2 / 256 % 256, g2 % 256, g3 / 256 % 256, g3 % 256, g4 / 256 % 256, g4 % 256, g5 / 256 % 256, g5 % 256, g6 / 256 % 256, g6 % 256, 0, 0] else [g0 / 256 % 256, g0 % 256, g1 / 256 % 256, g1 % 256, g2 / 256 % 256, g2 % 256, g3 / 256 % 256, g3 % 256, g4 / 256 % 256, g4 % 256, g5 / 256 % 256, g5 % 256, g6 / 256 % 256, g6 % 256, g7 / 256 % 256, g7 % 256])) 28 (0, 0)) ∧ Below w.heap.size w wr)) (fun v5 _ => 8 - (intOf v5).toNat)
  case atStart => exact ⟨0, rfl, ⟨by omega⟩, ⟨H1.out, H2.out, H3.out, HB.out⟩⟩
  case round =>
    obtain ⟨i, rfl, HI, HE⟩ := hrel
    clear H1 H2 H3 HB
    have H1 := Aside0.mk HE.out.1
    have H2 := Aside0.mk HE.out.2.1
    have H3 := Aside0.mk HE.out.2.2.1
    have HB := Aside0.mk HE.out.2.2.2
    clear HE
    have hi9 : i = 0 ∨ i = 1 ∨ i = 2 ∨ i = 3 ∨ i = 4 ∨ i = 5 ∨ i = 6 ∨ i = 7 ∨ i = 8 := by have := HI.out; omega
    rcases hi9 with rfl | rfl | rfl | rfl | rfl | rfl | rfl | rfl | rfl
    · have c1 : wr.drew.cell? ⟨k1, 0, none⟩ = some (.int .u16 g0) := blk_cell H1.out 0
      have x2 : wr.drew.cell? ⟨k3, 0, none⟩ = some (.int .u8 0) := blk_cell H3.out 0
      have x3 : wr.drew.cell? ⟨k3, 1, none⟩ = some (.int .u8 0) := blk_cell H3.out 1
      have z2 : wr.drew.frozen? ⟨k3, 0, none⟩ = false := blk_frozen H3.out 0
      have z3 : wr.drew.frozen? ⟨k3, 1, none⟩ = false := blk_frozen H3.out 1
      have y3 : ∀ v : Value, (wr.setCell ⟨k3, 0, none⟩ v).drew.cell? ⟨k3, 1, none⟩ = some (.int .u8 0) := fun v => (cell_two wr k3 0 1 v (by decide)).trans x3
      have q3 : ∀ v : Value, (wr.setCell ⟨k3, 0, none⟩ v).drew.frozen? ⟨k3, 1, none⟩ = false := fun v => (froz_two wr k3 0 1 v H3.out)
      have y2 : ∀ v : Value, (wr.setCell ⟨k3, 1, none⟩ v).drew.cell? ⟨k3, 0, none⟩ = some (.int .u8 0) := fun v => (cell_two wr k3 1 0 v (by decide)).trans x2
      have q2 : ∀ v : Value, (wr.setCell ⟨k3, 1, none⟩ v).drew.frozen? ⟨k3, 0, none⟩ = false := fun v => (froz_two wr k3 1 0 v H3.out)
      have y1 : ∀ (o : Nat) (v : Value), (wr.setCell ⟨k3, o, none⟩ v).drew.cell? ⟨k1, 0, none⟩ = some (.int .u16 g0) := fun o v => (World.cell?_of_block (Below.heap_setCell wr ⟨k3, o, none⟩ v k1 HN3.out.1)).trans c1
      go_wp2
      go_region
      go_wp2
      go_roundw
      case rel => exact ⟨1, rfl, ⟨by decide⟩, ⟨((Below.heap_setCell _ ⟨k3, 1, none⟩ _ k1 HN3.out.1).trans (Below.heap_setCell wr ⟨k3, 0, none⟩ _ k1 HN3.out.1)).trans H1.out, ((Below.heap_setCell _ ⟨k3, 1, none⟩ _ k2 HN3.out.2).trans (Below.heap_setCell wr ⟨k3, 0, none⟩ _ k2 HN3.out.2)).trans H2.out, blk_put (blk_put H3.out 0 (.int .u8 (g0 / 256 % 256)) rfl) 1 (.int .u8 (g0 % 256)) rfl, bdrew ((HB.out.setCell HG3.out _).setCell HG3.out _)⟩⟩
      case measure => decide
    · have c1 : wr.drew.cell? ⟨k1, 1, none⟩ = some (.int .u16 g1) := blk_cell H1.out 1
      have x2 : wr.drew.cell? ⟨k3, 2, none⟩ = some (.int .u8 0) := blk_cell H3.out 2
      have x3 : wr.drew.cell? ⟨k3, 3, none⟩ = some (.int .u8 0) := blk_cell H3.out 3
      have z2 : wr.drew.frozen? ⟨k3, 2, none⟩ = false := blk_frozen H3.out 2
      have z3 : wr.drew.frozen? ⟨k3, 3, none⟩ = false := blk_frozen H3.out 3
      have y3 : ∀ v : Value, (wr.setCell ⟨k3, 2, none⟩ v).drew.cell? ⟨k3, 3, none⟩ = some (.int .u8 0) := fun v => (cell_two wr k3 2 3 v (by decide)).trans x3
      have q3 : ∀ v : Value, (wr.setCell ⟨k3, 2, none⟩ v).drew.frozen? ⟨k3, 3, none⟩ = false := fun v => (froz_two wr k3 2 3 v H3.out)
      have y2 : ∀ v : Value, (wr.setCell ⟨k3, 3, none⟩ v).drew.cell? ⟨k3, 2, none⟩ = some (.int .u8 0) := fun v => (cell_two wr k3 3 2 v (by decide)).trans x2
      have q2 : ∀ v : Value, (wr.setCell ⟨k3, 3, none⟩ v).drew.frozen? ⟨k3, 2, none⟩ = false := fun v => (froz_two wr k3 3 2 v H3.out)
      have y1 : ∀ (o : Nat) (v : Value), (wr.setCell ⟨k3, o, none⟩ v).drew.cell? ⟨k1, 1, none⟩ = some (.int .u16 g1) := fun o v => (World.cell?_of_block (Below.heap_setCell wr ⟨k3, o, none⟩ v k1 HN3.out.1)).trans c1
      go_wp2
      go_region
      go_wp2
      go_roundw
      case rel => exact ⟨2, rfl, ⟨by decide⟩, ⟨((Below.heap_setCell _ ⟨k3, 3, none⟩ _ k1 HN3.out.1).trans (Below.heap_setCell wr ⟨k3, 2, none⟩ _ k1 HN3.out.1)).trans H1.out, ((Below.heap_setCell _ ⟨k3, 3, none⟩ _ k2 HN3.out.2).trans (Below.heap_setCell wr ⟨k3, 2, none⟩ _ k2 HN3.out.2)).trans H2.out, blk_put (blk_put H3.out 2 (.int .u8 (g1 / 256 % 256)) rfl) 3 (.int .u8 (g1 % 256)) rfl, bdrew ((HB.out.setCell HG3.out _).setCell HG3.out _)⟩⟩
      case measure => decide
    · have c1 : wr.drew.cell? ⟨k1, 2, none⟩ = some (.int .u16 g2) := blk_cell H1.out 2
      have x2 : wr.drew.cell? ⟨k3, 4, none⟩ = some (.int .u8 0) := blk_cell H3.out 4
      have x3 : wr.drew.cell? ⟨k3, 5, none⟩ = some (.int .u8 0) := blk_cell H3.out 5
      have z2 : wr.drew.frozen? ⟨k3, 4, none⟩ = false := blk_frozen H3.out 4
      have z3 : wr.drew.frozen? ⟨k3, 5, none⟩ = false := blk_frozen H3.out 5
      have y3 : ∀ v : Value, (wr.setCell ⟨k3, 4, none⟩ v).drew.cell? ⟨k3, 5, none⟩ = some (.int .u8 0) := fun v => (cell_two wr k3 4 5 v (by decide)).trans x3
      have q3 : ∀ v : Value, (wr.setCell ⟨k3, 4, none⟩ v).drew.frozen? ⟨k3, 5, none⟩ = false := fun v => (froz_two wr k3 4 5 v H3.out)
      have y2 : ∀ v : Value, (wr.setCell ⟨k3, 5, none⟩ v).drew.cell? ⟨k3, 4, none⟩ = some (.int .u8 0) := fun v => (cell_two wr k3 5 4 v (by decide)).trans x2
      have q2 : ∀ v : Value, (wr.setCell ⟨k3, 5, none⟩ v).drew.frozen? ⟨k3, 4, none⟩ = false := fun v => (froz_two wr k3 5 4 v H3.out)
      have y1 : ∀ (o : Nat) (v : Value), (wr.setCell ⟨k3, o, none⟩ v).drew.cell? ⟨k1, 2, none⟩ = some (.int .u16 g2) := fun o v => (World.cell?_of_block (Below.heap_setCell wr ⟨k3, o, none⟩ v k1 HN3.out.1)).trans c1
      go_wp2
      go_region
      go_wp2
      go_roundw
      case rel => exact ⟨3, rfl, ⟨by decide⟩, ⟨((Below.heap_setCell _ ⟨k3, 5, none⟩ _ k1 HN3.out.1).trans (Below.heap_setCell wr ⟨k3, 4, none⟩ _ k1 HN3.out.1)).trans H1.out, ((Below.heap_setCell _ ⟨k3, 5, none⟩ _ k2 HN3.out.2).trans (Below.heap_setCell wr ⟨k3, 4, none⟩ _ k2 HN3.out.2)).trans H2.out, blk_put (blk_put H3.out 4 (.int .u8 (g2 / 256 % 256)) rfl) 5 (.int .u8 (g2 % 256)) rfl, bdrew ((HB.out.setCell HG3.out _).setCell HG3.out _)⟩⟩
      case measure => decide
    · have c1 : wr.drew.cell? ⟨k1, 3, none⟩ = some (.int .u16 g3) := blk_cell H1.out 3
      have x2 : wr.drew.cell? ⟨k3, 6, none⟩ = some (.int .u8 0) := blk_cell H3.out 6
      have x3 : wr.drew.cell? ⟨k3, 7, none⟩ = some (.int .u8 0) := blk_cell H3.out 7
      have z2 : wr.drew.frozen? ⟨k3, 6, none⟩ = false := blk_frozen H3.out 6
      have z3 : wr.drew.frozen? ⟨k3, 7, none⟩ = false := blk_frozen H3.out 7
      have y3 : ∀ v : Value, (wr.setCell ⟨k3, 6, none⟩ v).drew.cell? ⟨k3, 7, none⟩ = some (.int .u8 0) := fun v => (cell_two wr k3 6 7 v (by decide)).trans x3
      have q3 : ∀ v : Value, (wr.setCell ⟨k3, 6, none⟩ v).drew.frozen? ⟨k3, 7, none⟩ = false := fun v => (froz_two wr k3 6 7 v H3.out)
      have y2 : ∀ v : Value, (wr.setCell ⟨k3, 7, none⟩ v).drew.cell? ⟨k3, 6, none⟩ = some (.int .u8 0) := fun v => (cell_two wr k3 7 6 v (by decide)).trans x2
      have q2 : ∀ v : Value, (wr.setCell ⟨k3, 7, none⟩ v).drew.frozen? ⟨k3, 6, none⟩ = false := fun v => (froz_two wr k3 7 6 v H3.out)
      have y1 : ∀ (o : Nat) (v : Value), (wr.setCell ⟨k3, o, none⟩ v).drew.cell? ⟨k1, 3, none⟩ = some (.int .u16 g3) := fun o v => (World.cell?_of_block (Below.heap_setCell wr ⟨k3, o, none⟩ v k1 HN3.out.1)).trans c1
      go_wp2
      go_region
      go_wp2
      go_roundw
      case rel => exact ⟨4, rfl, ⟨by decide⟩, ⟨((Below.heap_setCell _ ⟨k3, 7, none⟩ _ k1 HN3.out.1).trans (Below.heap_setCell wr ⟨k3, 6, none⟩ _ k1 HN3.out.1)).trans H1.out, ((Below.heap_setCell _ ⟨k3, 7, none⟩ _ k2 HN3.out.2).trans (Below.heap_setCell wr ⟨k3, 6, none⟩ _ k2 HN3.out.2)).trans H2.out, blk_put (blk_put H3.out 6 (.int .u8 (g3 / 256 % 256)) rfl) 7 (.int .u8 (g3 % 256)) rfl, bdrew ((HB.out.setCell HG3.out _).setCell HG3.out _)⟩⟩
      case measure => decide
    · have c1 : wr.drew.cell? ⟨k1, 4, none⟩ = some (.int .u16 g4) := blk_cell H1.out 4
      have x2 : wr.drew.cell? ⟨k3, 8, none⟩ = some (.int .u8 0) := blk_cell H3.out 8
      have x3 : wr.drew.cell? ⟨k3, 9, none⟩ = some (.int .u8 0) := blk_cell H3.out 9
      have z2 : wr.drew.frozen? ⟨k3, 8, none⟩ = false := blk_frozen H3.out 8
      have z3 : wr.drew.frozen? ⟨k3, 9, none⟩ = false := blk_frozen H3.out 9
      have y3 : ∀ v : Value, (wr.setCell ⟨k3, 8, none⟩ v).drew.cell? ⟨k3, 9, none⟩ = some (.int .u8 0) := fun v => (cell_two wr k3 8 9 v (by decide)).trans x3
      have q3 : ∀ v : Value, (wr.setCell ⟨k3, 8, none⟩ v).drew.frozen? ⟨k3, 9, none⟩ = false := fun v => (froz_two wr k3 8 9 v H3.out)
      have y2 : ∀ v : Value, (wr.setCell ⟨k3, 9, none⟩ v).drew.cell? ⟨k3, 8, none⟩ = some (.int .u8 0) := fun v => (cell_two wr k3 9 8 v (by decide)).trans x2
      have q2 : ∀ v : Value, (wr.setCell ⟨k3, 9, none⟩ v).drew.frozen? ⟨k3, 8, none⟩ = false := fun v => (froz_two wr k3 9 8 v H3.out)
      have y1 : ∀ (o : Nat) (v : Value), (wr.setCell ⟨k3, o, none⟩ v).drew.cell? ⟨k1, 4, none⟩ = some (.int .u16 g4) := fun o v => (World.cell?_of_block (Below.heap_setCell wr ⟨k3, o, none⟩ v k1 HN3.out.1)).trans c1
      go_wp2
      go_region
      go_wp2
      go_roundw
      case rel => exact ⟨5, rfl, ⟨by decide⟩, ⟨((Below.heap_setCell _ ⟨k3, 9, none⟩ _ k1 HN3.out.1).trans (Below.heap_setCell wr ⟨k3, 8, none⟩ _ k1 HN3.out.1)).trans H1.out, ((Below.heap_setCell _ ⟨k3, 9, none⟩ _ k2 HN3.out.2).trans (Below.heap_setCell wr ⟨k3, 8, none⟩ _ k2 HN3.out.2)).trans H2.out, blk_put (blk_put H3.out 8 (.int .u8 (g4 / 256 % 256)) rfl) 9 (.int .u8 (g4 % 256)) rfl, bdrew ((HB.out.setCell HG3.out _).setCell HG3.out _)⟩⟩
      case measure => decide
    · have c1 : wr.drew.cell? ⟨k1, 5, none⟩ = some (.int .u16 g5) := blk_cell H1.out 5
      have x2 : wr.drew.cell? ⟨k3, 10, none⟩ = some (.int .u8 0) := blk_cell H3.out 10
      have x3 : wr.drew.cell? ⟨k3, 11, none⟩ = some (.int .u8 0) := blk_cell H3.out 11
      have z2 : wr.drew.frozen? ⟨k3, 10, none⟩ = false := blk_frozen H3.out 10
      have z3 : wr.drew.frozen? ⟨k3, 11, none⟩ = false := blk_frozen H3.out 11
      have y3 : ∀ v : Value, (wr.setCell ⟨k3, 10, none⟩ v).drew.cell? ⟨k3, 11, none⟩ = some (.int .u8 0) := fun v => (cell_two wr k3 10 11 v (by decide)).trans x3
      have q3 : ∀ v : Value, (wr.setCell ⟨k3, 10, none⟩ v).drew.frozen? ⟨k3, 11, none⟩ = false := fun v => (froz_two wr k3 10 11 v H3.out)
      have y2 : ∀ v : Value, (wr.setCell ⟨k3, 11, none⟩ v).drew.cell? ⟨k3, 10, none⟩ = some (.int .u8 0) := fun v => (cell_two wr k3 11 10 v (by decide)).trans x2
      have q2 : ∀ v : Value, (wr.setCell ⟨k3, 11, none⟩ v).drew.frozen? ⟨k3, 10, none⟩ = false := fun v => (froz_two wr k3 11 10 v H3.out)
      have y1 : ∀ (o : Nat) (v : Value), (wr.setCell ⟨k3, o, none⟩ v).drew.cell? ⟨k1, 5, none⟩ = some (.int .u16 g5) := fun o v => (World.cell?_of_block (Below.heap_setCell wr ⟨k3, o, none⟩ v k1 HN3.out.1)).trans c1
      go_wp2
      go_region
      go_wp2
      go_roundw
      case rel => exact ⟨6, rfl, ⟨by decide⟩, ⟨((Below.heap_setCell _ ⟨k3, 11, none⟩ _ k1 HN3.out.1).trans (Below.heap_setCell wr ⟨k3, 10, none⟩ _ k1 HN3.out.1)).trans H1.out, ((Below.heap_setCell _ ⟨k3, 11, none⟩ _ k2 HN3.out.2).trans (Below.heap_setCell wr ⟨k3, 10, none⟩ _ k2 HN3.out.2)).trans H2.out, blk_put (blk_put H3.out 10 (.int .u8 (g5 / 256 % 256)) rfl) 11 (.int .u8 (g5 % 256)) rfl, bdrew ((HB.out.setCell HG3.out _).setCell HG3.out _)⟩⟩
      case measure => decide
    · have c1 : wr.drew.cell? ⟨k1, 6, none⟩ = some (.int .u16 g6) := blk_cell H1.out 6
      have x2 : wr.drew.cell? ⟨k3, 12, none⟩ = some (.int .u8 0) := blk_cell H3.out 12
      have x3 : wr.drew.cell? ⟨k3, 13, none⟩ = some (.int .u8 0) := blk_cell H3.out 13
      have z2 : wr.drew.frozen? ⟨k3, 12, none⟩ = false := blk_frozen H3.out 12
      have z3 : wr.drew.frozen? ⟨k3, 13, none⟩ = false := blk_frozen H3.out 13
      have y3 : ∀ v : Value, (wr.setCell ⟨k3, 12, none⟩ v).drew.cell? ⟨k3, 13, none⟩ = some (.int .u8 0) := fun v => (cell_two wr k3 12 13 v (by decide)).trans x3
      have q3 : ∀ v : Value, (wr.setCell ⟨k3, 12, none⟩ v).drew.frozen? ⟨k3, 13, none⟩ = false := fun v => (froz_two wr k3 12 13 v H3.out)
      have y2 : ∀ v : Value, (wr.setCell ⟨k3, 13, none⟩ v).drew.cell? ⟨k3, 12, none⟩ = some (.int .u8 0) := fun v => (cell_two wr k3 13 12 v (by decide)).trans x2
      have q2 : ∀ v : Value, (wr.setCell ⟨k3, 13, none⟩ v).drew.frozen? ⟨k3, 12, none⟩ = false := fun v => (froz_two wr k3 13 12 v H3.out)
      have y1 : ∀ (o : Nat) (v : Value), (wr.setCell ⟨k3, o, none⟩ v).drew.cell? ⟨k1, 6, none⟩ = some (.int .u16 g6) := fun o v => (World.cell?_of_block (Below.heap_setCell wr ⟨k3, o, none⟩ v k1 HN3.out.1)).trans c1
      go_wp2
      go_region
      go_wp2
      go_roundw
      case rel => exact ⟨7, rfl, ⟨by decide⟩, ⟨((Below.heap_setCell _ ⟨k3, 13, none⟩ _ k1 HN3.out.1).trans (Below.heap_setCell wr ⟨k3, 12, none⟩ _ k1 HN3.out.1)).trans H1.out, ((Below.heap_setCell _ ⟨k3, 13, none⟩ _ k2 HN3.out.2).trans (Below.heap_setCell wr ⟨k3, 12, none⟩ _ k2 HN3.out.2)).trans H2.out, blk_put (blk_put H3.out 12 (.int .u8 (g6 / 256 % 256)) rfl) 13 (.int .u8 (g6 % 256)) rfl, bdrew ((HB.out.setCell HG3.out _).setCell HG3.out _)⟩⟩
      case measure => decide
    · have c1 : wr.drew.cell? ⟨k1, 7, none⟩ = some (.int .u16 g7) := blk_cell H1.out 7
      have x2 : wr.drew.cell? ⟨k3, 14, none⟩ = some (.int .u8 0) := blk_cell H3.out 14
      have x3 : wr.drew.cell? ⟨k3, 15, none⟩ = some (.int .u8 0) := blk_cell H3.out 15
      have z2 : wr.drew.frozen? ⟨k3, 14, none⟩ = false := blk_frozen H3.out 14
      have z3 : wr.drew.frozen? ⟨k3, 15, none⟩ = false := blk_frozen H3.out 15
      have y3 : ∀ v : Value, (wr.setCell ⟨k3, 14, none⟩ v).drew.cell? ⟨k3, 15, none⟩ = some (.int .u8 0) := fun v => (cell_two wr k3 14 15 v (by decide)).trans x3
      have q3 : ∀ v : Value, (wr.setCell ⟨k3, 14, none⟩ v).drew.frozen? ⟨k3, 15, none⟩ = false := fun v => (froz_two wr k3 14 15 v H3.out)
      have y2 : ∀ v : Value, (wr.setCell ⟨k3, 15, none⟩ v).drew.cell? ⟨k3, 14, none⟩ = some (.int .u8 0) := fun v => (cell_two wr k3 15 14 v (by decide)).trans x2
      have q2 : ∀ v : Value, (wr.setCell ⟨k3, 15, none⟩ v).drew.frozen? ⟨k3, 14, none⟩ = false := fun v => (froz_two wr k3 15 14 v H3.out)
      have y1 : ∀ (o : Nat) (v : Value), (wr.setCell ⟨k3, o, none⟩ v).drew.cell? ⟨k1, 7, none⟩ = some (.int .u16 g7) := fun o v => (World.cell?_of_block (Below.heap_setCell wr ⟨k3, o, none⟩ v k1 HN3.out.1)).trans c1
      go_wp2
      go_region
      go_wp2
      go_roundw
      case rel => exact ⟨8, rfl, ⟨by decide⟩, ⟨((Below.heap_setCell _ ⟨k3, 15, none⟩ _ k1 HN3.out.1).trans (Below.heap_setCell wr ⟨k3, 14, none⟩ _ k1 HN3.out.1)).trans H1.out, ((Below.heap_setCell _ ⟨k3, 15, none⟩ _ k2 HN3.out.2).trans (Below.heap_setCell wr ⟨k3, 14, none⟩ _ k2 HN3.out.2)).trans H2.out, blk_put (blk_put H3.out 14 (.int .u8 (g7 / 256 % 256)) rfl) 15 (.int .u8 (g7 % 256)) rfl, bdrew ((HB.out.setCell HG3.out _).setCell HG3.out _)⟩⟩
      case measure => decide
    · replace H3 := Aside0.mk (show wr.heap[k3]? = some (.cells (b4L [g0 / 256 % 256, g0 % 256, g1 / 256 % 256, g1 % 256, g2 / 256 % 256, g2 % 256, g3 / 256 % 256, g3 % 256, g4 / 256 % 256, g4 % 256, g5 / 256 % 256, g5 % 256, g6 / 256 % 256, g6 % 256, g7 / 256 % 256, g7 % 256]) 28 (0, 0)) from H3.out)
      go_wp2_with (first
        | ((with_reducible refine gate_dst (N := 25) rfl ?_); refine wpList_load_row rfl 28 (.tmp 3) rfl k3 rfl 28 (b4L [g0 / 256 % 256, g0 % 256, g1 / 256 % 256, g1 % 256, g2 / 256 % 256, g2 % 256, g3 / 256 % 256, g3 % 256, g4 / 256 % 256, g4 % 256, g5 / 256 % 256, g5 % 256, g6 / 256 % 256, g6 % 256, g7 / 256 % 256, g7 % 256]) (0, 0) _ H3.out Tryz.underlying28 rfl (inf16 rfl) ?_)
        | ((with_reducible refine gate_store (t := 28) (p := 2) rfl ?_); refine wpList_store_row rfl 28 (.tmp 2) (.tmp 25) rfl k2 (b4L [g0 / 256 % 256, g0 % 256, g1 / 256 % 256, g1 % 256, g2 / 256 % 256, g2 % 256, g3 / 256 % 256, g3 % 256, g4 / 256 % 256, g4 % 256, g5 / 256 % 256, g5 % 256, g6 / 256 % 256, g6 % 256, g7 / 256 % 256, g7 % 256]) rfl rfl 28 (b4L [0, 0, 0, 0, 0, 0, 0, 0, 0, 0, 0, 0, 0, 0, 0, 0]) H2.out (inf16 rfl) rfl (b4L_one _) ?_; replace H2 := Aside0.mk (row_new (cells := b4L [g0 / 256 % 256, g0 % 256, g1 / 256 % 256, g1 % 256, g2 / 256 % 256, g2 % 256, g3 / 256 % 256, g3 % 256, g4 / 256 % 256, g4 % 256, g5 / 256 % 256, g5 % 256, g6 / 256 % 256, g6 % 256, g7 / 256 % 256, g7 % 256]) H2.out); replace HB := Aside0.mk (below_row HB.out HG2.out (b4L [g0 / 256 % 256, g0 % 256, g1 / 256 % 256, g1 % 256, g2 / 256 % 256, g2 % 256, g3 / 256 % 256, g3 % 256, g4 / 256 % 256, g4 % 256, g5 / 256 % 256, g5 % 256, g6 / 256 % 256, g6 % 256, g7 / 256 % 256, g7 % 256]))))
      refine bodyPost_ret (results_cell_row rfl _ _ k2 28 (b4L [g0 / 256 % 256, g0 % 256, g1 / 256 % 256, g1 % 256, g2 / 256 % 256, g2 % 256, g3 / 256 % 256, g3 % 256, g4 / 256 % 256, g4 % 256, g5 / 256 % 256, g5 % 256, g6 / 256 % 256, g6 % 256, g7 / 256 % 256, g7 % 256]) (0, 0) _ rfl H2.out Tryz.underlying28 rfl (inf16 rfl)) rfl ?_
      exact ⟨rfl, HB.out⟩
theorem built_a6 (b0 b1 b2 b3 b4 b5 b6 b7 b8 b9 b10 b11 b12 b13 b14 b15 : Int) : Tryz.prog.built 30 [(0, .int .i64 6), (1, .agg (b4L [b0, b1, b2, b3, b4, b5, b6, b7, b8, b9, b10, b11, b12, b13, b14, b15]))] = some (eA ⟨6, [b0, b1, b2, b3, b4, b5, b6, b7, b8, b9, b10, b11, b12, b13, b14, b15]⟩) := by kernel_rfl
/-- An address of 128 bits, of its groups. -/
def of6 (l : List Int) : Ad := ⟨6, l.flatMap fun x => [x / 256 % 256, x % 256]⟩
theorem of6_eq (g0 g1 g2 g3 g4 g5 g6 g7 : Int) : of6 [g0, g1, g2, g3, g4, g5, g6, g7] = ⟨6, [g0 / 256 % 256, g0 % 256, g1 / 256 % 256, g1 % 256, g2 / 256 % 256, g2 % 256, g3 / 256 % 256, g3 % 256, g4 / 256 % 256, g4 % 256, g5 / 256 % 256, g5 % 256, g6 / 256 % 256, g6 % 256, g7 / 256 % 256, g7 % 256]⟩ := rfl
theorem ok_of6 (g0 g1 g2 g3 g4 g5 g6 g7 : Int) : Ad.ok (of6 [g0, g1, g2, g3, g4, g5, g6, g7]) := by
  rw [of6_eq]
  refine ⟨rfl, fun x hx => ?_⟩
  simp only [List.mem_cons, List.not_mem_nil, or_false] at hx
  rcases hx with rfl | rfl | rfl | rfl | rfl | rfl | rfl | rfl | rfl | rfl | rfl | rfl | rfl | rfl | rfl | rfl <;> omega
set_option maxHeartbeats 4000000 in
set_option maxRecDepth 100000 in
theorem addr_Of6 (g0 g1 g2 g3 g4 g5 g6 g7 : Int) (hr : ∀ x ∈ ([g0, g1, g2, g3, g4, g5, g6, g7] : List Int), 0 ≤ x ∧ x ≤ 65535) (w : World) : Calls Tryz.prog 66 #[.agg (e8 [g0, g1, g2, g3, g4, g5, g6, g7])] w fun e w' => e = .returned (.agg (eA (of6 [g0, g1, g2, g3, g4, g5, g6, g7]))) ∧ Below w.heap.size w w' := by
  have HB := Aside0.mk (Below.refl w.heap.size w)
  have HR := Aside0.mk hr
  have HO := Aside0.mk (ok_of6 g0 g1 g2 g3 g4 g5 g6 g7)
  rw [of6_eq] at HO ⊢
  clear hr
  go_enter Tryz.func66, Tryz.ntmps66
  go_wp2_with (first
    | ((with_reducible refine gate_dst (N := 1) rfl ?_); refine box_event ?hg (N := 1) ?hd (cs := e8 [g0, g1, g2, g3, g4, g5, g6, g7]) (t := 76) ?hr ?_; (case hd => rfl); (case hg => rfl); (case hr => first | (go_simp; done) | (go_simp; rfl)); intro k1 hg w1 hbox hb; have H1 := Aside0.mk hbox; have HG1 := Aside0.mk (show w.heap.size ≤ k1 by rw [hg]; exact below_size (bel_later HB.out)); skip; replace HB := Aside0.mk (below_step (bel_later HB.out) hb); clear hb hg hbox)
    | ((with_reducible refine gate_dst (N := 2) rfl ?_); refine box_event ?hg (N := 2) ?hd (cs := eA noA) (t := 30) ?hr ?_; (case hd => rfl); (case hg => rfl); (case hr => first | (go_simp; done) | (go_simp; rfl)); intro k2 hg w2 hbox hb; have H2 := Aside0.mk hbox; have HG2 := Aside0.mk (show w.heap.size ≤ k2 by rw [hg]; exact below_size (bel_later HB.out)); have HN12 := Aside0.mk (show k1 ≠ k2 by rw [hg]; exact Nat.ne_of_lt (blk_lt (blk_later H1.out))); replace H1 := Aside0.mk (blk_below (blk_later H1.out) hb); replace HB := Aside0.mk (below_step (bel_later HB.out) hb); clear hb hg hbox)
    | ((with_reducible refine gate_dst (N := 3) rfl ?_); refine wpList_load_row rfl 76 (.tmp 1) rfl k1 rfl 76 (e8 [g0, g1, g2, g3, g4, g5, g6, g7]) (0, 0) _ H1.out Tryz.underlying76 rfl (inf8 rfl) ?_)
    | (go_at_call 99; refine (six_Bytes g0 g1 g2 g3 g4 g5 g6 g7 HR.out _).mono ?_; rintro e w4 ⟨rfl, hb⟩; replace H2 := Aside0.mk (blk_below H2.out hb); replace HB := Aside0.mk (below_step HB.out hb); clear hb)
    | ((with_reducible refine gate_dst (N := 5) rfl ?_); refine wpList_buildTo rfl 30 _ rfl _ rfl (eA ⟨6, [g0 / 256 % 256, g0 % 256, g1 / 256 % 256, g1 % 256, g2 / 256 % 256, g2 % 256, g3 / 256 % 256, g3 % 256, g4 / 256 % 256, g4 % 256, g5 / 256 % 256, g5 % 256, g6 / 256 % 256, g6 % 256, g7 / 256 % 256, g7 % 256]⟩) ?hbb ?_; (case hbb => rw [List.map_toArray]; exact built_a6 _ _ _ _ _ _ _ _ _ _ _ _ _ _ _ _))
    | ((with_reducible refine gate_store (t := 30) (p := 2) rfl ?_); refine wpList_store_row rfl 30 (.tmp 2) (.tmp 5) rfl k2 (eA ⟨6, [g0 / 256 % 256, g0 % 256, g1 / 256 % 256, g1 % 256, g2 / 256 % 256, g2 % 256, g3 / 256 % 256, g3 % 256, g4 / 256 % 256, g4 % 256, g5 / 256 % 256, g5 % 256, g6 / 256 % 256, g6 % 256, g7 / 256 % 256, g7 % 256]⟩) rfl rfl 30 (eA noA) H2.out (infoE HO.out) ((eA_size ok_noA).trans (eA_size HO.out).symm) (eA_one _) ?_; replace H2 := Aside0.mk (row_new (cells := eA ⟨6, [g0 / 256 % 256, g0 % 256, g1 / 256 % 256, g1 % 256, g2 / 256 % 256, g2 % 256, g3 / 256 % 256, g3 % 256, g4 / 256 % 256, g4 % 256, g5 / 256 % 256, g5 % 256, g6 / 256 % 256, g6 % 256, g7 / 256 % 256, g7 % 256]⟩) H2.out); replace HB := Aside0.mk (below_row HB.out HG2.out (eA ⟨6, [g0 / 256 % 256, g0 % 256, g1 / 256 % 256, g1 % 256, g2 / 256 % 256, g2 % 256, g3 / 256 % 256, g3 % 256, g4 / 256 % 256, g4 % 256, g5 / 256 % 256, g5 % 256, g6 / 256 % 256, g6 % 256, g7 / 256 % 256, g7 % 256]⟩))))
  refine bodyPost_ret (results_cell_row rfl _ _ k2 30 (eA ⟨6, [g0 / 256 % 256, g0 % 256, g1 / 256 % 256, g1 % 256, g2 / 256 % 256, g2 % 256, g3 / 256 % 256, g3 % 256, g4 / 256 % 256, g4 % 256, g5 / 256 % 256, g5 % 256, g6 / 256 % 256, g6 % 256, g7 / 256 % 256, g7 % 256]⟩) (0, 0) _ rfl H2.out Tryz.underlying30 rfl (infoE HO.out)) rfl ?_
  exact ⟨rfl, HB.out⟩
end Go.Proofs.YthdognlkacjkhaaGreatDoor.P
end
