/-
  six.part, six.row at texts of no group and of one.
-/
import Derived.Lib.SliceRun
import Derived.Lib.Walk
import Derived.Test.YthdognlkacjkhaaGreatDoorSpaD
namespace Go.Proofs.YthdognlkacjkhaaGreatDoor.P
open Go.RowKit Go.Proofs.YthdognlkacjkhaaGreatDoorW.PrintWords Go.Proofs.YthdognlkacjkhaaGreatDoorW.PrintLast Go.Proofs.YthdognlkacjkhaaGreatDoorW.PrintMore
set_option linter.unusedVariables false
set_option linter.unusedSimpArgs false
/-- A text that is one group. -/
structure Group (p : ByteArray) (n : Int) : Prop where
  dot : strings_Contains.f p ⟨#[46]⟩ = some false
  one : ∃ k, text_Split.f k p 58 = some [p]
  num : text_Number.f p 16 = some (n, true)
  size : p.size ≤ 4
  some : p.toList.isEmpty = false
  lo : 0 ≤ n
  hi : n ≤ 65535
set_option maxHeartbeats 2000000 in
set_option maxRecDepth 100000 in
theorem six_part (p : ByteArray) (n : Int) (last : Bool) (hp : Group p n) (w : World) (hmx : MaxIs w) :
    Calls Tryz.prog 119 #[.string p, .bool last] w fun e w' => ∃ g, e = .returned (.slice (some ⟨g, 0, none⟩) 1 1) ∧ w'.cell? ⟨g, 0, none⟩ = some (.int .u16 n) ∧ Below w.heap.size w w' := by
  have HB := Aside0.mk (Below.refl w.heap.size w)
  have HMX := Aside0.mk hmx
  have HP := Aside0.mk hp
  have ew : n % 65536 = n := by have := hp.lo; have := hp.hi; omega
  have es : decide ((4 : Int) < (p.size : Int)) = false := decide_eq_false (by have := hp.size; omega)
  have esn : decide (4 < p.size) = false := decide_eq_false (by have := hp.size; omega)
  clear hp hmx
  cases last
  · go_enter Tryz.func119, Tryz.ntmps119
    go_wp2_with (first
      | (go_at_call 38; refine (text_Number.calls p 16 n true _ HP.out.num).mono ?_; rintro e w6 ⟨rfl, hb⟩; replace HB := Aside0.mk (below_step HB.out hb); clear hb))
    go_ret
    exact ⟨w6.heap.size, rfl, blk_cell (heap_alloc_new w6 _) 0, HB.out.alloc HB.out.size _⟩
  · go_enter Tryz.func119, Tryz.ntmps119
    go_wp2_with (first
      | (go_at_call 133; refine (strings_Contains.calls p ⟨#[46]⟩ false _ HMX.out HP.out.dot).mono ?_; rintro e w5 ⟨rfl, hb⟩; replace HB := Aside0.mk (below_step HB.out hb); clear hb)
      | (go_at_call 38; refine (text_Number.calls p 16 n true _ HP.out.num).mono ?_; rintro e w6 ⟨rfl, hb⟩; replace HB := Aside0.mk (below_step HB.out hb); clear hb))
    go_ret
    exact ⟨w6.heap.size, rfl, blk_cell (heap_alloc_new w6 _) 0, HB.out.alloc HB.out.size _⟩
/-- What six.row hands back at a text: these groups. -/
def RowOk (s : ByteArray) (last : Bool) (l : List Int) : Prop := ∀ w : World, MaxIs w → Calls Tryz.prog 98 #[.string s, .bool last] w fun e w' => ∃ v, e = .returned (.tuple #[v, .bool true]) ∧ w'.ownsRow w.heap.size 75 1 v l.length (l.map (Value.int .u16)) ∧ Below w.heap.size w w'
theorem info_u16 : (Tryz.prog.info? 75).map (fun i => (i.zero, i.size, i.bytes)) = some (some (.int .u16 0), 1, 2) := by kernel_rfl
set_option maxHeartbeats 4000000 in
set_option maxRecDepth 100000 in
theorem row_one (p : ByteArray) (n : Int) (hp : Group p n) (last : Bool) : RowOk p last [n] := fun w hmx => by
  have HB := Aside0.mk (Below.refl w.heap.size w)
  have HMX := Aside0.mk hmx
  have HP := Aside0.mk hp
  obtain ⟨k, hk⟩ := hp.one
  have HK := Aside0.mk hk
  have hne := hp.some
  obtain ⟨i0, hi0, hz0, hz1, hz2⟩ := info_parts info_u16
  have q50 : ∀ (w : World) (a : Option Addr) (n c n' c' : Nat), (binOp .eql 148 (.slice a n c) (.slice none n' c')).run Tryz.prog w = .ok (.bool a.isNone) w := fun w a n c n' c' => Lib.run_eql_slice_nil w _ _ a n c n' c' Tryz.underlying148
  clear hp hmx hk
  go_enter Tryz.func98, Tryz.ntmps98
  go_wp2_with (first
    | (go_at_call 94; refine (text_Split.calls k p 58 [p] _ HK.out).mono ?_; rintro e w2 ⟨v, rfl, hR, hb⟩; obtain ⟨gb, cap, rfl, hlt, hcs⟩ := strs_form hR (Nat.succ_pos _); have HC := Aside0.mk (hcs 0 p rfl); replace HB := Aside0.mk (below_step HB.out hb); clear hb hR hcs hlt))
  go_loopw [6, 17] (fun v6 v17 wr => ∃ (i : Nat) (u : Value), v6 = u ∧ v17 = .int .i64 (i : Int) ∧ Aside0 (i ≤ 1) ∧ Aside0 ((i = 0 ∧ u = .slice none 0 0) ∨ (i = 1 ∧ wr.ownsRow w.heap.size 75 1 u 1 [.int .u16 n])) ∧ Aside0 (wr.cell? ⟨gb, 0, none⟩ = some (.string p)) ∧ Aside0 (Below w.heap.size w wr)) (fun _ v17 _ => 1 - (intOf v17).toNat)
  case atStart => exact ⟨0, _, rfl, rfl, ⟨by omega⟩, ⟨.inl ⟨rfl, rfl⟩⟩, HC, HB⟩
  case round =>
    clear HC HB
    obtain ⟨i, u, rfl, rfl, HI, HU, HC, HB⟩ := hrel
    rcases HU.out with ⟨rfl, rfl⟩ | ⟨rfl, hu⟩
    · have cp := HC.out
      cases last
      all_goals
        go_wp2_with (first
          | (go_at_call 119; refine (six_part p n _ HP.out _ (maxis_below HMX.out HB.out)).mono ?_; rintro e w6 ⟨g, rfl, hg, hb⟩; have HG := Aside0.mk hg; replace HC := Aside0.mk (cell_below HC.out hb); replace HB := Aside0.mk (below_step HB.out hb); clear hg hb)
          | ((with_reducible refine gate_dst (N := 36) rfl ?_); refine wpList_append_own w6 rfl (.tmp 34) (.tmp 35) 148 rfl w.heap.size 75 i0 (.int .u16 0) 1 2 Tryz.underlying148 hi0 hz0 hz1 hz2 rfl (by decide) (.slice none 0 0) 0 [] rfl (World.ownsRow_nil _ _ _ _) ⟨g, 0, none⟩ 1 1 [.int .u16 n] rfl rfl (fun j x hj => by match j, hj with | 0, hj => rw [Addr.add_mid]; exact HG.out.trans hj) (fun x hx => by rw [List.mem_singleton] at hx; subst hx; rfl) (by decide) (by decide) HB.out.size ?_; intro v' w7 hown hgrow hnil; have HV := Aside0.mk hown; have hbb : Below w6.heap.size w6 w7 := (Below.refl _ w6).grown hgrow (Nat.le_refl _) (fun k hk => by simp [Value.ownBlock] at hk); replace HC := Aside0.mk (cell_below HC.out hbb); replace HB := Aside0.mk (below_step HB.out hbb); clear hown hgrow hnil hbb))
        exact ⟨⟨1, v', rfl, rfl, ⟨by omega⟩, ⟨.inr ⟨rfl, HV.out⟩⟩, HC, HB⟩, by decide⟩
    · have HU2 := Aside0.mk hu
      clear HU hu
      go_wp2
      go_ret2
      exact ⟨_, rfl, HU2.out, HB.out⟩
end Go.Proofs.YthdognlkacjkhaaGreatDoor.P
