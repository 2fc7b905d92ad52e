/-
  One text out of: HeadA, HeadD, HeadF, HeadG, HeadI, HeadJ.
-/
import Derived.RangeFuncNested
import Derived.RangeFuncBound
import Derived.RangeFuncCalls
import Derived.RangeFuncLeaves
import Derived.Shelf.Abstract
import Derived.WalkKit
import Derived.OwnWalkIn
import Derived.TacticsInMore
import Derived.LoopNIn
import Derived.LoopIn
import Derived.Maps.AppendAt
import Derived.Test.YthjhbhgfckaklabDoorBase
import Derived.Test.YthjhbhgfckaklabDoorPL11
import Derived.Laws.CopyRow
import Derived.Laws.OwnMore
import Derived.Lib.SliceRun
import Derived.Lib.Overlaps
import Derived.Laws.Externs
import Derived.Shelf.RegionOpenPlain
section
namespace Go.Proofs.YthjhbhgfckaklabDoor.P
open Go.RowKit Go.Shelf Go.Proofs.YthjhbhgfckaklabDoorW.PrintWords Go.Proofs.YthjhbhgfckaklabDoorW.PrintLast Go.Proofs.YthjhbhgfckaklabDoorW.PrintMore
set_option linter.unusedVariables false
set_option linter.unusedSimpArgs false
attribute [local go_sem] Oper.semAt_some

/-- The headers of a name, with their places, from place i on. -/
def ofList (n : ByteArray) : List S26 → Nat → Option (List (Nat × S26))
  | [], _ => some []
  | h :: t, i => (text_Like.f h.f0 n).bind fun b => (ofList n t (i + 1)).bind fun r => some (if b = true then (i, h) :: r else r)
def encH (x : Nat × S26) : Array Value := #[.int .i64 (x.1 : Int), .agg #[.string x.2.f0, .string x.2.f1]]
/-- What a round that goes on keeps: what lay ahead of the call, and the name's box. -/
def KpH (w0 : World) (Bn : Nat) (W W' : World) : Prop := Below w0.heap.size W W' ∧ W'.heap[Bn]? = W.heap[Bn]?

theorem of_in (n : Nat) (A0 : Option Addr) (m c0 : Nat) (nm : ByteArray) (w : World) :
    CallsIn Fence.wide n Tryd.prog 45 #[.slice A0 m c0, .string nm] w fun e w' =>
      e = .returned (.func (.func 69) #[] #[.pointer (some ⟨w.heap.size, 0, none⟩), .pointer (some ⟨w.heap.size + 1, 0, none⟩)]) ∧
      w' = (w.alloc (.cells #[.slice A0 m c0] 23)).alloc (.cells #[.string nm] 9) := by
  refine callsIn_of_wp Tryd.func45 rfl trivial ?_ rfl
  simp only [Tryd.ntmps45, List.size_toArray, List.length_cons, List.length_nil, Nat.reduceAdd, Nat.reduceSub, Array.replicate_succ, Array.replicate_zero, List.push_toArray, List.append_toArray, List.nil_append, List.cons_append]
  gi_wp2
  go_ret
  exact ⟨by simp, rfl⟩

/-- A block is laid, then a callee runs: no elder block turns; the block's two cells lie. -/
theorem fresh_like {w w2 : World} {a b : Value} {t : TypeId} (h : Below (w.alloc (.cells #[a, b] t)).heap.size (w.alloc (.cells #[a, b] t)) w2) : w.grownBy w2 none :=
  ⟨h.os, h.tape, h.output, by have := h.size; simp at this; omega, fun k hk _ => (h.block k (by simp; omega)).trans (Below.heap_alloc _ _ k hk)⟩
theorem fresh_cells {w w2 : World} {a b : Value} {t : TypeId} (h : Below (w.alloc (.cells #[a, b] t)).heap.size (w.alloc (.cells #[a, b] t)) w2) :
    w2.cell? ⟨w.heap.size, 0, none⟩ = some a ∧ w2.cell? ⟨w.heap.size, 1, none⟩ = some b := by
  have e : w2.heap[w.heap.size]? = some (.cells #[a, b] t (0, 0)) := (h.block w.heap.size (by simp)).trans (World.alloc_heap_new w _)
  constructor <;> simp [World.cell?, e]
/-- A loop's measure, as a law of its own: the kernel looks into no number. -/
theorem measure_nextH (L i : Nat) (z : Int) (h : z = ((i + 1 : Nat) : Int)) (hlt : i < L) : L - (intOf (.int .i64 z)).toNat < L - (intOf (.int .i64 (i : Int))).toNat := by
  subst h
  show L - (((i + 1 : Nat) : Int)).toNat < L - ((i : Nat) : Int).toNat
  rw [Int.toNat_natCast, Int.toNat_natCast]
  omega
theorem _root_.Go.World.grownBy.below' {w w2 : World} (h : w.grownBy w2 none) (n : Nat) (hn : n ≤ w.heap.size := by omega) : Below n w w2 := ⟨h.os, h.tape, h.output, h.size, fun k hk => h.block k (by omega) (by simp)⟩
theorem abides_lower {β : Type} {B B' : Nat} {J : β → World → Prop} (h : AbidesFrom B J) (hb : B ≤ B') : AbidesFrom B' J := fun s W W' row hs hg hr => h s W W' row hs hg (fun r e => ⟨Nat.le_trans hb (hr r e).1, (hr r e).2⟩)
theorem wrap_nextH (i : Nat) (h : i < 9223372036854775807) : wrap64 ((i : Int) + 1) = ((i + 1 : Nat) : Int) := by unfold wrap64; omega

set_option maxRecDepth 100000 in
set_option maxHeartbeats 2000000 in
theorem of1_in (n : Nat) (hn : 1 ≤ n) (l Bl Bn : Nat) (w0 : World) (A0 : Option Addr) (c0 : Nat) (l0 : List S26) (nm : ByteArray) (xs : List (Nat × S26)) (J Jx : List (Nat × S26) → World → Prop)
    (hr0 : Kd.C k26 w0 A0 l0.length l0) (hxs : ofList nm l0 0 = some xs)
    (hY : ∀ pre x W, J pre W → pre ++ [x] <+: xs → YieldAt Fence.wide (n - 1) Tryd.prog l (encH x) W fun e W' =>
      (e = .returned (.bool true) ∧ J (pre ++ [x]) W' ∧ KpH w0 Bn W W') ∨ (e = .returned (.bool false) ∧ Jx (pre ++ [x]) W'))
    (W : World) (hJ : AbidesFrom W.heap.size J) (hW0 : Below w0.heap.size w0 W) (hBl : W.cell? ⟨Bl, 0, none⟩ = some (.slice A0 l0.length c0)) (hBn : W.heap[Bn]? = some (.cells #[.string nm] 9 (0, 0))) (h0 : J [] W) :
    CallsIn Fence.wide n Tryd.prog 69 #[.func (.yield l) #[] #[], .pointer (some ⟨Bl, 0, none⟩), .pointer (some ⟨Bn, 0, none⟩)] W fun e W' => (∃ v, e = .returned v) ∧
      ((∃ ys, ys = xs ∧ J ys W') ∨ (∃ pre, pre <+: xs ∧ Jx pre W')) := by
  have HR0 := Aside0.mk hr0
  have HXS := Aside0.mk hxs
  have HY := Aside0.mk hY
  have HJ := Aside0.mk hJ
  have HN := Aside0.mk hr0.2.1
  have HW0 := Aside0.mk hW0
  have HBN := Aside0.mk hBn
  have H0 := Aside0.mk h0
  clear hr0 hxs hY hJ hW0 hBn h0
  refine callsIn_of_wp Tryd.func69 rfl trivial ?_ rfl
  simp only [Tryd.ntmps69, List.size_toArray, List.length_cons, List.length_nil, Nat.reduceAdd, Nat.reduceSub, Array.replicate_succ, Array.replicate_zero, List.push_toArray, List.append_toArray, List.nil_append, List.cons_append]
  gi_wp2
  gi_loopw [8] (fun v8 wr => ∃ (i : Nat) (pre rest : List (Nat × S26)), v8 = .int .i64 (i : Int) ∧ Aside0 (i ≤ l0.length) ∧ Aside0 (ofList nm (l0.drop i) i = some rest) ∧ Aside0 (xs = pre ++ rest) ∧ Aside0 (J pre wr) ∧ Aside0 (Below w0.heap.size W wr) ∧ Aside0 (wr.heap[Bn]? = some (.cells #[.string nm] 9 (0, 0))) ∧ Aside0 (W.heap.size ≤ wr.heap.size)) (fun v8 _ => l0.length - (intOf v8).toNat)
  case atStart => exact ⟨0, [], xs, rfl, ⟨Nat.zero_le _⟩, ⟨by rw [List.drop_zero]; exact HXS.out⟩, ⟨rfl⟩, H0, ⟨Below.refl _ _⟩, HBN, ⟨Nat.le_refl _⟩⟩
  case round =>
    clear H0 HBN
    obtain ⟨i, pre, rest, rfl, HI, HA, HX, HJp, HB, HBN, HSZ⟩ := hrel
    by_cases hlt : i < l0.length
    · have c3b0 : decide ((i : Int) < (l0.length : Int)) = true := decide_eq_true (by omega)
      have c3b1 : decide (i < l0.length) = true := decide_eq_true hlt
      have c3b2 : (0 : Int) ≤ (i : Int) := Int.natCast_nonneg i
      obtain ⟨ad, e133, hx0, hx1⟩ := at_T26 HR0.out (i : Int) c3b2 (by omega)
      cases e133
      have hb0 := HW0.out.trans HB.out
      replace hx0 := (hb0.cell (World.block_lt_of_cell? w0 _ hx0)).trans hx0
      replace hx1 := (hb0.cell (World.block_lt_of_cell? w0 _ hx1)).trans hx1
      rw [Int.toNat_natCast] at hx0 hx1
      have hcn : wr.cell? ⟨Bn, 0, none⟩ = some (.string nm) := by simp [World.cell?, HBN.out]
      have hlb : Bn < wr.heap.size := (Array.getElem?_eq_some_iff.1 HBN.out).1
      have HLB := Aside0.mk hlb
      clear hb0 hlb
      have hd : l0.drop i = rd_T26 l0 (i : Int) :: l0.drop (i + 1) := by
        rw [List.drop_eq_getElem_cons hlt]
        congr 1
        unfold rd_T26
        rw [Int.toNat_natCast, List.getD_eq_getElem?_getD, List.getElem?_eq_getElem hlt]
        rfl
      have hA := HA.out
      rw [hd] at hA
      unfold ofList at hA
      obtain ⟨b, hb, hA⟩ := Option.bind_eq_some_iff.mp hA
      obtain ⟨rest', hb', hA⟩ := Option.bind_eq_some_iff.mp hA
      have HLK := Aside0.mk hb
      have HA2 := Aside0.mk hb'
      have HA3 := Aside0.mk (Option.some.inj hA)
      clear hb hb' hA HA hd
      replace c3b2 := eq_true c3b2
      have hcn2 : (wr.alloc (.cells #[.string (rd_T26 l0 (i : Int)).f0, .string (rd_T26 l0 (i : Int)).f1] 26)).cell? ⟨Bn, 0, none⟩ = some (.string nm) := (((Below.refl wr.heap.size wr).alloc (Nat.le_refl _) _).cell (p := ⟨Bn, 0, none⟩) HLB.out).trans hcn
      have hn1 : 1 ≤ n - 1 ∨ n - 1 = 0 := by omega
      clear hn1
      have e1 := wrap_nextH i (Nat.lt_of_lt_of_le hlt HN.out)
      have E1 := Aside0.mk e1
      cases b with
      | true =>
        have HR := Aside0.mk ((if_pos rfl).symm.trans HA3.out)
        gi_wp2_with (first
          | (refine ⟨trivial, ?_⟩; gi_at_call 50; refine (callsIn_wide.2 (text_Like.calls (rd_T26 l0 (i : Int)).f0 nm true _ HLK.out)).mono ?_; rintro e w2 ⟨rfl, hB2⟩
             have hg2 : wr.grownBy w2 none := fresh_like hB2
             have hz0 := fresh_cells hB2
             have hz1 := hz0.2
             replace hz0 := hz0.1
             have hbn2 : w2.heap[Bn]? = some (.cells #[.string nm] 9 (0, 0)) := (hg2.block Bn HLB.out (by simp)).trans HBN.out
             have HBN2 := Aside0.mk hbn2
             have HG2 := Aside0.mk hg2
             have hJ2 : J pre w2 := (abides_lower HJ.out HSZ.out) pre wr w2 none HJp.out hg2 (fun r e => by cases e)
             obtain ⟨fn, tmps, assign, body, hy, hR⟩ := HY.out pre (i, rd_T26 l0 (i : Int)) w2 hJ2 ⟨rest', by rw [HX.out, ← HR.out]; simp⟩
             dsimp only [encH] at hy
             clear hB2 hg2 hJ2 hbn2))
        refine hR.mono ?_
        rintro e W3 (⟨rfl, hJ3, hk3⟩ | ⟨rfl, hJx3⟩)
        · have HJ3 := Aside0.mk hJ3
          have HK3 := Aside0.mk hk3
          clear hJ3 hk3
          gi_wp2
          go_roundw
          case rel => exact ⟨i + 1, pre ++ [(i, rd_T26 l0 (i : Int))], rest', congrArg (Value.int .i64) E1.out, ⟨hlt⟩, ⟨HA2.out⟩, ⟨by rw [HX.out, ← HR.out]; simp⟩, HJ3, ⟨(HB.out.trans (HG2.out.below' w0.heap.size (Nat.le_trans HW0.out.size HSZ.out))).trans HK3.out.1⟩, ⟨HK3.out.2.trans HBN2.out⟩, ⟨Nat.le_trans HSZ.out (Nat.le_trans HG2.out.size HK3.out.1.size)⟩⟩
          case measure => exact measure_nextH l0.length i _ E1.out hlt
        · gi_wp2
          refine bodyPost_ret (results_none rfl _ _ _) rfl ?_
          exact ⟨⟨_, rfl⟩, .inr ⟨_, ⟨rest', by rw [HX.out, ← HR.out]; simp⟩, hJx3⟩⟩
      | false =>
        have HR := Aside0.mk ((if_neg (show ¬ (false = true) by decide)).symm.trans HA3.out)
        gi_wp2_with (first
          | (refine ⟨trivial, ?_⟩; gi_at_call 50; refine (callsIn_wide.2 (text_Like.calls (rd_T26 l0 (i : Int)).f0 nm false _ HLK.out)).mono ?_; rintro e w2 ⟨rfl, hB2⟩
             have hg2 : wr.grownBy w2 none := fresh_like hB2
             have hbn2 : w2.heap[Bn]? = some (.cells #[.string nm] 9 (0, 0)) := (hg2.block Bn HLB.out (by simp)).trans HBN.out
             have HBN2 := Aside0.mk hbn2
             have HG2 := Aside0.mk hg2
             have hJ2 : J pre w2 := (abides_lower HJ.out HSZ.out) pre wr w2 none HJp.out hg2 (fun r e => by cases e)
             have HJ2 := Aside0.mk hJ2
             clear hB2 hg2 hJ2 hbn2))
        refine ⟨fun _ h => (by cases h), ?_⟩
        gi_wp2
        go_roundw
        case rel => exact ⟨i + 1, pre, rest', congrArg (Value.int .i64) E1.out, ⟨hlt⟩, ⟨HA2.out⟩, ⟨by rw [HX.out, ← HR.out]⟩, HJ2, ⟨HB.out.trans (HG2.out.below' w0.heap.size (Nat.le_trans HW0.out.size HSZ.out))⟩, HBN2, ⟨Nat.le_trans HSZ.out HG2.out.size⟩⟩
        case measure => exact measure_nextH l0.length i _ E1.out hlt
    · have c3b0 : decide ((i : Int) < (l0.length : Int)) = false := decide_eq_false (by omega)
      have c3b1 : decide (i < l0.length) = false := decide_eq_false hlt
      have hA := HA.out
      rw [List.drop_of_length_le (by omega)] at hA
      have hr := Option.some.inj hA
      have HR := Aside0.mk hr
      clear hA HA hr
      gi_wp2
      go_end0
      exact ⟨⟨_, rfl⟩, .inl ⟨pre, by rw [HX.out, ← HR.out, List.append_nil], HJp.out⟩⟩

theorem ofList_length (nm : ByteArray) : ∀ (l : List S26) (i : Nat) (xs : List (Nat × S26)), ofList nm l i = some xs → xs.length ≤ l.length
  | [], i, xs, h => by cases Option.some.inj h; exact Nat.le_refl _
  | x :: l, i, xs, h => by
    unfold ofList at h
    obtain ⟨b, _, h⟩ := Option.bind_eq_some_iff.mp h
    obtain ⟨r, hr, h⟩ := Option.bind_eq_some_iff.mp h
    have ih := ofList_length nm l (i + 1) r hr
    cases Option.some.inj h
    split
    · rw [List.length_cons, List.length_cons]; omega
    · rw [List.length_cons]; omega
/-- Nothing of the iterator at no headers; at headers: of1_in. -/
theorem of_stops (n : Nat) (hn : 1 ≤ n) (Bl Bn : Nat) (w0 : World) (A0 : Option Addr) (c0 : Nat) (l0 : List S26) (nm : ByteArray) (xs : List (Nat × S26)) (hr0 : Kd.C k26 w0 A0 l0.length l0) (hxs : ofList nm l0 0 = some xs)
    (W0 : World) (hW0 : Below w0.heap.size w0 W0) (hBl : Boxed W0 Bl 23 (.slice A0 l0.length c0)) (hBn : Boxed W0 Bn 9 (.string nm)) :
    SeqStopsK Fence.wide n Tryd.prog 69 #[.pointer (some ⟨Bl, 0, none⟩), .pointer (some ⟨Bn, 0, none⟩)] encH (KpH w0 Bn) (fun ys => ys = xs) (fun pre => pre <+: xs) xs.length W0 :=
  fun l J Jx W hW hJ _ hY h0 => of1_in n hn l Bl Bn w0 A0 c0 l0 nm xs J Jx hr0 hxs (fun pre x W hj hp => hY pre x W hj (by have := hp.length_le; simp at this; omega)) W hJ (hW0.trans (hW.mono hW0.size)) ((hW.cell (p := ⟨Bl, 0, none⟩) hBl.lt).trans hBl.cell) ((hW.block Bn hBn.lt).trans hBn) h0
theorem kp_t {w0 : World} {Bn : Nat} {A B C : World} (h : KpH w0 Bn A B) (k : KpH w0 Bn B C) : KpH w0 Bn A C := ⟨h.1.trans k.1, k.2.trans h.2⟩
theorem kp_b {w0 W0 : World} {Bn : Nat} (h0 : w0.heap.size ≤ W0.heap.size) (hb : Bn < W0.heap.size) (W : World) (l : Nat) (o o' : Obj) (hl : W0.heap.size ≤ l) (ho : W.heap[l]? = some o) (h1 : o.isCells = false) (h2 : o.isWalk = false) : KpH w0 Bn W (W.putObj l o') :=
  ⟨belowK_b (w := W0) h0 W l o o' hl ho h1 h2, World.putObj_heap_other (by omega)⟩
/-- 'out = append(out, ..)' where out's box lies ahead of its rows: as Boxed.appended; and no block ahead of the rows but the box turns. -/
theorem appended_far {W w1 : World} {n₀ B : Nat} {t e : TypeId} {size : Nat} {v v' : Value} {k m : Nat} {xs ys : List Value} {tmp : Obj}
    (hv : Boxed W B t v) (hte : t ≠ e) (hrow : W.ownsRow n₀ e size v k xs) (hn₀ : n₀ ≤ W.heap.size) (hB : B < n₀)
    (hown' : w1.ownsRow n₀ e size v' m ys) (hgrow : (W.alloc tmp).grownBy w1 v.ownBlock) :
    Boxed w1 B t v ∧ Boxed (w1.setCell ⟨B, 0, none⟩ v') B t v' ∧ (w1.setCell ⟨B, 0, none⟩ v').ownsRow n₀ e size v' m ys ∧ KeepsOthers W (w1.setCell ⟨B, 0, none⟩ v') ∧ Below B W (w1.setCell ⟨B, 0, none⟩ v') ∧ ∀ k, k < n₀ → k ≠ B → (w1.setCell ⟨B, 0, none⟩ v').heap[k]? = W.heap[k]? := by
  obtain ⟨h1, h2, _, h4, h5⟩ := hv.appended hte (own_weaken hrow (Nat.zero_le _)) (Nat.zero_le _) (Nat.zero_le _) (own_weaken hown' (Nat.zero_le _)) hgrow
  have hall : ∀ k, k < n₀ → k ≠ B → (w1.setCell ⟨B, 0, none⟩ v').heap[k]? = W.heap[k]? := fun k hk hkB =>
    (Below.heap_setCell w1 ⟨B, 0, none⟩ v' k hkB).trans ((hgrow.block k (by simp; omega) (fun e => by have := own_base hrow k e.symm; omega)).trans (Below.heap_alloc _ _ k (by omega)))
  exact ⟨h1, h2, hown'.kept (grownBy_setCell' w1 B v') (.inr (h1.not_row hte hown').symm), h4, ⟨h5.os, h5.tape, h5.output, h5.size, fun k hk => hall k (by omega) (by omega)⟩, hall⟩
theorem info_str : (Tryd.prog.info? 9).map (fun i => (i.zero, i.size, i.bytes)) = some (some (.string ⟨#[]⟩), 1, 16) := by kernel_rfl
theorem cells_kept {W W' : World} {row : Option Nat} {B : Nat} {cs : Array Value} {t : TypeId} (h : W.heap[B]? = some (.cells cs t (0, 0))) (hg : W.grownBy W' row) (hr : ∀ r, row = some r → ∃ o : Obj, W.heap[r]? = some o ∧ o.isCells = false) : W'.heap[B]? = some (.cells cs t (0, 0)) :=
  (hg.block B (Array.getElem?_eq_some_iff.1 h).1 (fun e => by obtain ⟨o, ho, hc⟩ := hr B e.symm; rw [h] at ho; cases ho; cases hc)).trans h

def valsOf (pre : List (Nat × S26)) : List ByteArray := pre.map fun x => x.2.f1
theorem valsOf_snoc (pre : List (Nat × S26)) (x : Nat × S26) : valsOf (pre ++ [x]) = valsOf pre ++ [x.2.f1] := by simp [valsOf]
theorem valsOf_length (pre : List (Nat × S26)) : (valsOf pre).length = pre.length := by simp [valsOf]

-- EXT abatis/head.All {"rounds": 0, "making": 1}
def head_All.f (l0 : List S26) (a1 : ByteArray) : Option (List ByteArray) := if l0.length ≤ 1000000 then (ofList a1 l0 0).bind fun r => some (valsOf r) else none
set_option maxRecDepth 100000 in
set_option maxHeartbeats 4000000 in
theorem head_All.calls (A0 : Option Addr) (c0 : Nat) (l0 : List S26) (a1 : ByteArray) (r : List ByteArray) (w : World) (hr0 : Kd.C k26 w A0 l0.length l0) (hc0 : l0.length ≤ c0) (h : head_All.f l0 a1 = some r) :
    Calls Tryd.prog 21 #[.slice A0 l0.length c0, .string a1] w fun e w' => ∃ v0_ : Value, e = .returned v0_ ∧ Kd.R Kd.string 9 w' w.heap.size (fun _ => True) v0_ r ∧ Below w.heap.size w w' := by
  unfold head_All.f at h
  split at h
  case isFalse => exact absurd h (by simp)
  rename_i hs
  obtain ⟨xs, hxs, h⟩ := Option.bind_eq_some_iff.mp h
  have HL := Aside0.mk (Nat.le_trans (ofList_length a1 l0 0 xs hxs) hs)
  have HXS := Aside0.mk hxs
  have HR := Aside0.mk (Option.some.inj h)
  have HR0 := Aside0.mk hr0
  clear h hs hxs hr0 hc0
  obtain ⟨i0, hi, hz0, hz1, hz2⟩ := info_parts info_str
  refine (callsIn_wide (n := 9)).1 ?_
  refine callsIn_of_wp_marks Tryd.func21 rfl trivial ?_ rfl
  simp only [Tryd.ntmps21, List.size_toArray, List.length_cons, List.length_nil, Nat.reduceAdd, Nat.reduceSub, Array.replicate_succ, Array.replicate_zero, List.push_toArray, List.append_toArray, List.nil_append, List.cons_append]
  gi_wp2_with (refine ⟨trivial, ?_⟩; gi_at_call 45; refine (of_in _ _ _ _ _ _).mono ?_; rintro e w' ⟨rfl, rfl⟩)
  have bO := ((Boxed.new w 22 (.slice none 0 0)).alloc (.cells #[.slice A0 l0.length c0] 23)).alloc (.cells #[.string a1] 9)
  have bL := (Boxed.new (w.alloc (.cells #[.slice none 0 0] 22)) 23 (.slice A0 l0.length c0)).alloc (.cells #[.string a1] 9)
  have bN := Boxed.new ((w.alloc (.cells #[.slice none 0 0] 22)).alloc (.cells #[.slice A0 l0.length c0] 23)) 9 (.string a1)
  simp only [World.size_alloc] at bO bL bN
  have hB0 : Below w.heap.size w (((w.alloc (.cells #[.slice none 0 0] 22)).alloc (.cells #[.slice A0 l0.length c0] 23)).alloc (.cells #[.string a1] 9)) := (((Below.refl _ w).alloc (Nat.le_refl _) _).alloc (by simp) _).alloc (by simp; omega) _
  have hsz : (((w.alloc (.cells #[.slice none 0 0] 22)).alloc (.cells #[.slice A0 l0.length c0] 23)).alloc (.cells #[.string a1] 9)).heap.size = w.heap.size + 3 := by simp
  obtain ⟨W0, hW0⟩ : ∃ W0, ((w.alloc (.cells #[.slice none 0 0] 22)).alloc (.cells #[.slice A0 l0.length c0] 23)).alloc (.cells #[.string a1] 9) = W0 := ⟨_, rfl⟩
  rw [hW0] at bO bL bN hB0 hsz ⊢
  clear hW0
  refine wpIn_rangeFunc_ownH rfl (by omega) (gf := 69) (lb := #[.pointer (some ⟨w.heap.size + 1, 0, none⟩), .pointer (some ⟨w.heap.size + 1 + 1, 0, none⟩)]) rfl trivial (enters_of Tryd.func69 (by kernel_rfl) rfl)
    (of_stops _ (by omega) (w.heap.size + 1) (w.heap.size + 1 + 1) w A0 c0 l0 a1 xs HR0.out HXS.out W0 hB0 bL bN) kp_t (kp_b (by omega) (by omega)) (Below.refl _ _) (fun _ => rfl)
    (fun pre W => (∃ v, Boxed W w.heap.size 22 v ∧ W.ownsRow (w.heap.size + 3) 9 1 v (valsOf pre).length ((valsOf pre).map Value.string) ∧ True) ∧ (Boxed W (w.heap.size + 1 + 1) 9 (.string a1) ∧ Below w.heap.size w W))
    (fun _ _ _ => False)
    (OwnFrom.and (Own.from (holdsRow_own (w.heap.size + 3) w.heap.size 22 9 1 (fun pre => (valsOf pre).length) (fun pre => (valsOf pre).map Value.string) (fun _ _ => True)) _) (OwnFrom.and (Own.from (boxed_own _ _ _) _) (ownFrom_below (Nat.le_refl _) (by omega))))
    (fun _ _ _ _ _ hs _ _ => hs)
    ⟨⟨_, bO, World.ownsRow_nil _ _ _ _, trivial⟩, bN, hB0⟩
    (fun x a' W => ∃ Bx, w.heap.size + 2 < Bx ∧ W.heap[Bx]? = some (.cells #[.string x.2.f0, .string x.2.f1] 26 (0, 0)) ∧ a' = { tmps := #[.slice A0 l0.length c0, .string a1, undef, undef, .slice none 0 0, .pointer (some ⟨w.heap.size, 0, none⟩), undef, .pointer (some ⟨Bx, 0, none⟩), .slice A0 l0.length c0, .string a1, .func (.func 69) #[] #[.pointer (some ⟨w.heap.size + 1, 0, none⟩), .pointer (some ⟨w.heap.size + 1 + 1, 0, none⟩)], .int .i64 (x.1 : Int), .agg #[.string x.2.f0, .string x.2.f1], undef, undef, undef, undef, undef, undef], defers := [] })
    (fun x a' _ X Y row hs hg hr => by obtain ⟨Bx, h1, h2, h3⟩ := hs; exact ⟨Bx, h1, cells_kept h2 hg (fun r e => (hr r e).2), h3⟩)
    ?assign ?body ?done ?stop
  case assign =>
    rintro l pre x W K ⟨⟨v, hv, hrow, _⟩, bN1, hB1⟩ hK
    have hlt := bN1.lt
    dsimp only [encH]
    gi_wp2
    exact hK _ _ ((KeepsOthers.alloc _ _).from _) ⟨(Below.refl _ W).alloc hB1.size _, Below.heap_alloc _ _ _ bN1.lt⟩ ⟨⟨v, hv.alloc _, hrow.alloc _, trivial⟩, bN1.alloc _, hB1.alloc hB1.size _⟩ ⟨W.heap.size, by omega, World.alloc_heap_new W _, rfl⟩
  case body =>
    rintro l pre x a' W hl hrl ⟨⟨v, hv, hrow, _⟩, bN1, hB1⟩ ⟨Bx, hBx, bX, rfl⟩ hlt
    have hc := hv.cell
    have hx1 : W.cell? ⟨Bx, 1, none⟩ = some (.string x.2.f1) := by simp [World.cell?, bX]
    have hsW := bN1.lt
    have HPL := Aside0.mk (valsOf_length pre)
    have hmax : (1000001 : Nat) ≤ maxLen := by decide
    gi_wp2_with (gi_at_builtin; refine wpListIn_append_own _ rfl _ _ 22 rfl (w.heap.size + 3) 9 i0 (.string ⟨#[]⟩) 1 16 Tryd.underlying22 hi hz0 hz1 hz2 rfl (by decide) _ _ _ rfl (hrow.alloc _) ⟨W.heap.size, 0, none⟩ 1 1 [.string x.2.f1] rfl rfl (cell_one_new _ _ _) (by simp [Value.oneCell']) (by have := HPL.out; have := HL.out; omega) (by have := HPL.out; have := HL.out; omega) (by simp; omega) ?_; intro v' w1 hown' hgrow _; obtain ⟨g', cap', rfl⟩ := ownsRow_succ hown'; obtain ⟨hv1, hv2, hr2, hk2, hb2, hf2⟩ := appended_far hv (by decide) hrow (by omega) (by omega) hown' hgrow; have hc1 := hv1.cell; have hf1 := hv1.frozen)
    exact ⟨hk2.from _, ⟨hb2, hf2 _ (by omega) (by omega)⟩, ⟨_, hv2, by rw [valsOf_snoc]; simpa using hr2, trivial⟩, (hf2 _ (by omega) (by omega)).trans bN1, hB1.trans hb2⟩
  case done =>
    rintro D ys W hD rfl ⟨⟨v, hv, hrow, _⟩, bN1, hB1⟩ hK
    have hc := hv.cell
    gi_wp2
    refine ⟨by simp, .inl ⟨_, _, rfl, run_takeDeferred hK, ?_⟩⟩
    exact ⟨_, results_tmp rfl _ _ _, v, rfl, by rw [← HR.out]; exact Kd.R_of_own (own_weaken (ownsRow_putObj hrow _ hK rfl) (by omega)) (fun _ _ => trivial), hB1.trans (belowK_b (w := w) (Nat.le_refl _) W D _ _ (by omega) hK rfl rfl)⟩
  case stop =>
    rintro D c pre W _ _ h _
    exact h.elim
end Go.Proofs.YthjhbhgfckaklabDoor.P
end
section
namespace Go.Proofs.YthjhbhgfckaklabDoor.P
open Go.RowKit Go.Proofs.YthjhbhgfckaklabDoorW.PrintWords Go.Proofs.YthjhbhgfckaklabDoorW.PrintLast Go.Proofs.YthjhbhgfckaklabDoorW.PrintMore
set_option linter.unusedVariables false
set_option linter.unusedSimpArgs false

/-! ### headers' cells, one behind the other -/
def flH : List S26 → List Value
  | [] => []
  | h :: l => .string h.f0 :: .string h.f1 :: flH l
theorem flH_length : ∀ l, (flH l).length = l.length * 2
  | [] => rfl
  | h :: l => by
    show (flH l).length + 1 + 1 = _
    rw [flH_length l, List.length_cons]; omega
theorem flH_append : ∀ a b, flH (a ++ b) = flH a ++ flH b
  | [], b => rfl
  | h :: a, b => by show _ :: _ :: flH (a ++ b) = _; rw [flH_append a b]; rfl
theorem flH_one : ∀ (l : List S26) (u : Value), u ∈ flH l → u.oneCell' = true
  | [], u, h => by cases h
  | x :: l, u, h => by
    rcases List.mem_cons.1 h with rfl | h
    · rfl
    · rcases List.mem_cons.1 h with rfl | h
      · rfl
      · exact flH_one l u h
theorem flH_get : ∀ (l : List S26) (j : Nat) (h : j < l.length), (flH l)[j * 2]? = some (.string l[j].f0) ∧ (flH l)[j * 2 + 1]? = some (.string l[j].f1)
  | x :: l, 0, _ => ⟨rfl, rfl⟩
  | x :: l, j + 1, h => by
    have ih := flH_get l j (by simpa using h)
    rw [show (j + 1) * 2 = j * 2 + 1 + 1 from by omega]
    exact ih
theorem flH_take : ∀ (l : List S26) (j : Nat), (flH l).take (j * 2) = flH (l.take j)
  | [], j => by simp [flH]
  | x :: l, 0 => by simp [flH]
  | x :: l, j + 1 => by
    rw [show (j + 1) * 2 = j * 2 + 1 + 1 from by omega]
    show _ :: _ :: (flH l).take (j * 2) = _
    rw [flH_take l j]; rfl
theorem flH_drop : ∀ (l : List S26) (j : Nat), (flH l).drop (j * 2) = flH (l.drop j)
  | [], j => by simp [flH]
  | x :: l, 0 => by simp [flH]
  | x :: l, j + 1 => by
    rw [show (j + 1) * 2 = j * 2 + 1 + 1 from by omega]
    show (flH l).drop (j * 2) = _
    rw [flH_drop l j]; rfl
theorem flH_set : ∀ (l : List S26) (j : Nat) (x : S26), ((flH l).set (j * 2) (.string x.f0)).set (j * 2 + 1) (.string x.f1) = flH (l.set j x)
  | [], j, x => by simp [flH]
  | y :: l, 0, x => rfl
  | y :: l, j + 1, x => by
    rw [show (j + 1) * 2 = j * 2 + 1 + 1 from by omega]
    show _ :: _ :: ((flH l).set (j * 2) (.string x.f0)).set (j * 2 + 1) (.string x.f1) = _
    rw [flH_set l j x]; rfl
theorem reps_flH {w : World} : ∀ (l : List S26) (inner : List Value), Reps (k26.K w) 2 l inner → inner = flH l
  | [], inner, h => List.eq_nil_of_length_eq_zero (by simpa using h.1)
  | x :: l, inner, h => by
    obtain ⟨h1, h2⟩ := h
    have h0 := k26_open (h2 0 x rfl)
    rw [Nat.zero_mul, List.drop_zero] at h0
    have hr : Reps (k26.K w) 2 l (inner.drop 2) := ⟨by rw [List.length_drop, h1, List.length_cons]; omega, fun j p hj => by
      have := h2 (j + 1) p hj
      rw [List.drop_drop, show 2 + j * 2 = (j + 1) * 2 from by omega]
      exact this⟩
    rw [← List.take_append_drop 2 inner, h0, reps_flH l _ hr]
    rfl
theorem flH_reps (w : World) (base : Nat) (ok : Nat → Prop) : ∀ l : List S26, Reps (k26.M w base ok) 2 l (flH l) := fun l => by
  refine ⟨flH_length l, fun j p hj => ?_⟩
  obtain ⟨hlt, rfl⟩ := List.getElem?_eq_some_iff.1 hj
  rw [flH_drop, List.drop_eq_getElem_cons hlt]
  show k26.M w base ok l[j] (List.take 2 (_ :: _ :: flH (l.drop (j + 1))))
  rw [List.take_succ_cons, List.take_succ_cons, List.take_zero]
  exact k26_mkM w base ok l[j]
theorem flH_repsK (w : World) (l : List S26) : Reps (k26.K w) 2 l (flH l) := (flH_reps w 0 (fun _ => True) l).imp_ fun _ _ h => k26.K_of_M h
/-- What is read, as cells. -/
theorem cells_flH {w : World} {ad : Addr} {n : Nat} {l : List S26} (h : Kd.C k26 w (some ad) n l) : ∀ j u, (flH l)[j]? = some u → w.cell? (ad.add j) = some u := by
  obtain ⟨inner, hr, hc⟩ := ReadsRow.inner_ h
  rw [← reps_flH l inner hr]
  exact hc
theorem R_flH {w : World} {base : Nat} {v : Value} {l : List S26} (h : w.ownsRow base 26 2 v l.length (flH l)) : Kd.R k26 26 w base (fun _ => True) v l :=
  ⟨fun _ _ => trivial, flH l, h, flH_reps w base _ l⟩
theorem C_flH {w : World} {base : Nat} {A : Option Addr} {c : Nat} {l : List S26} (h : w.ownsRow base 26 2 (.slice A l.length c) l.length (flH l)) : Kd.C k26 w A l.length l := by
  obtain ⟨A', c', he, hr⟩ := own_reads_row h (flH_repsK w l) rfl
  obtain ⟨rfl, -, rfl⟩ := Value.slice.inj he
  exact hr
/-- One header of a row of the call's own: its cells, none frozen. -/
theorem flH_at {W : World} {base g n cap : Nat} {l : List S26} (h : W.ownsRow base 26 2 (.slice (some ⟨g, 0, none⟩) n cap) n (flH l)) (hn : l.length = n) (j : Nat) (hj : j < l.length) :
    W.cell? ⟨g, j * 2, none⟩ = some (.string l[j].f0) ∧ W.cell? ⟨g, j * 2 + 1, none⟩ = some (.string l[j].f1) := by
  have h0 := h.cells (g := g) rfl (j * 2) _ (flH_get l j hj).1
  have h1 := h.cells (g := g) rfl (j * 2 + 1) _ (flH_get l j hj).2
  rw [add_plain] at h0 h1
  exact ⟨h0, h1⟩
theorem own_thaw {W : World} {base g n cap size : Nat} {e : TypeId} {xs : List Value} (h : W.ownsRow base e size (.slice (some ⟨g, 0, none⟩) n cap) n xs) (j : Nat) : W.frozen? ⟨g, j, none⟩ = false := by
  rcases h.2 with ⟨h', _⟩ | ⟨g', cap', cur, h', _, hh, _⟩
  · cases h'
  · have : g = g' := by injection h' with h'; injection h' with h'; injection h' with h'
    subst this
    simp [World.frozen?, hh]
theorem grown_trans {a b c : World} {row : Option Nat} (h : a.grownBy b row) (k : b.grownBy c row) : a.grownBy c row :=
  ⟨k.os.trans h.os, k.tape.trans h.tape, k.output.trans h.output, Nat.le_trans h.size k.size, fun i hi hne => (k.block i (Nat.lt_of_lt_of_le hi h.size) hne).trans (h.block i hi hne)⟩
theorem grown_of_below {a b : World} (row : Option Nat) (h : Below a.heap.size a b) : a.grownBy b row := ⟨h.os, h.tape, h.output, h.size, fun i hi _ => h.block i hi⟩

/-! ### the closure -/
theorem box_str {w w' : World} {Bn : Nat} {s : ByteArray} (h : w.heap[Bn]? = some (.cells #[.string s] 9 (0, 0))) : w.cell? ⟨Bn, 0, none⟩ = some (.string s) := by simp [World.cell?, h]
set_option maxRecDepth 100000 in
theorem drop_is (x : S26) (nm : ByteArray) (Bn : Nat) (b : Bool) (w : World) (hB : w.heap[Bn]? = some (.cells #[.string nm] 9 (0, 0))) (h : text_Like.f x.f0 nm = some b) :
    Calls Tryd.prog 49 #[.agg #[.string x.f0, .string x.f1], .pointer (some ⟨Bn, 0, none⟩)] w fun e w' => e = .returned (.bool b) ∧ Below w.heap.size w w' := by
  have H := Aside0.mk h
  have hlt : Bn < w.heap.size := (Array.getElem?_eq_some_iff.1 hB).1
  have hc : (w.alloc (.cells #[.string x.f0, .string x.f1] 26)).cell? ⟨Bn, 0, none⟩ = some (.string nm) := (((Below.refl w.heap.size w).alloc (Nat.le_refl _) _).cell (p := ⟨Bn, 0, none⟩) hlt).trans (by simp [World.cell?, hB])
  clear h hB hlt
  go_enter Tryd.func49, Tryd.ntmps49
  go_wp2_with (go_at_call 50; refine (text_Like.calls x.f0 nm b _ H.out).mono ?_; rintro e w' ⟨rfl, hB⟩)
  go_ret
  exact ⟨rfl, ((Below.refl _ w).alloc (Nat.le_refl _) _).trans (hB.mono (by simp))⟩
/-- Where the first header of a name stands, reckoned from i; -1: nowhere. -/
def likeFrom (nm : ByteArray) : List S26 → Int → Option Int
  | [], _ => some (-1)
  | x :: l, i => (text_Like.f x.f0 nm).bind fun b => if b = true then some i else likeFrom nm l (i + 1)
theorem wrap_nextD (i : Nat) (h : i < 9223372036854775807) : wrap64 ((i : Int) + 1) = ((i + 1 : Nat) : Int) := by unfold wrap64; omega
set_option maxHeartbeats 2000000 in
set_option maxRecDepth 100000 in
theorem like_index (A0 : Option Addr) (c0 : Nat) (l0 : List S26) (nm : ByteArray) (Bn : Nat) (r : Int) (w : World) (hr0 : Kd.C k26 w A0 l0.length l0) (hBn : w.heap[Bn]? = some (.cells #[.string nm] 9 (0, 0))) (h : likeFrom nm l0 0 = some r) :
    Calls Tryd.prog 68 #[.slice A0 l0.length c0, .func (.func 49) #[] #[.pointer (some ⟨Bn, 0, none⟩)]] w fun e w' => e = .returned (.int .i64 r) ∧ Below w.heap.size w w' := by
  have HR0 := Aside0.mk hr0
  have H := Aside0.mk h
  have HN := Aside0.mk hr0.2.1
  have HBN := Aside0.mk hBn
  clear hr0 h hBn
  have eg : ∀ args w, (callFunc 49 args).run Tryd.prog w = .ok (.enter 49 args) w := enters_of Tryd.func49 (by kernel_rfl) rfl
  go_enter Tryd.func68, Tryd.ntmps68
  go_wp2
  go_loopw [8] (fun v8 w' => ∃ i : Nat, v8 = .int .i64 (i : Int) ∧ Aside0 (likeFrom nm (l0.drop i) (i : Int) = some r) ∧ Aside0 (i ≤ l0.length) ∧ Aside0 (Below w.heap.size w w')) (fun v8 _ => l0.length - (intOf v8).toNat)
  case atStart => exact ⟨0, rfl, ⟨by rw [List.drop_zero]; exact H.out⟩, ⟨Nat.zero_le _⟩, ⟨Below.refl _ _⟩⟩
  case round =>
    clear H
    obtain ⟨i, rfl, HA, HI, HB⟩ := hrel
    by_cases hlt : i < l0.length
    · have c3b0 : decide ((i : Int) < (l0.length : Int)) = true := decide_eq_true (by omega)
      have c3b1 : decide (i < l0.length) = true := decide_eq_true hlt
      have c3b2 : (0 : Int) ≤ (i : Int) := Int.natCast_nonneg i
      obtain ⟨ad, e133, hx0, hx1⟩ := at_T26 HR0.out (i : Int) c3b2 (by omega)
      cases e133
      replace hx0 := (HB.out.cell (World.block_lt_of_cell? w _ hx0)).trans hx0
      replace hx1 := (HB.out.cell (World.block_lt_of_cell? w _ hx1)).trans hx1
      rw [Int.toNat_natCast] at hx0 hx1
      have hd : l0.drop i = rd_T26 l0 (i : Int) :: l0.drop (i + 1) := by
        rw [List.drop_eq_getElem_cons hlt]
        congr 1
        unfold rd_T26
        rw [Int.toNat_natCast, List.getD_eq_getElem?_getD, List.getElem?_eq_getElem hlt]
        rfl
      have hA := HA.out
      rw [hd] at hA
      unfold likeFrom at hA
      obtain ⟨b, hb, hA⟩ := Option.bind_eq_some_iff.mp hA
      have HLK := Aside0.mk hb
      have HA2 := Aside0.mk hA
      clear hb hA HA hd
      replace c3b2 := eq_true c3b2
      cases b with
      | true =>
        have HR := Aside0.mk (Option.some.inj ((if_pos rfl).symm.trans HA2.out))
        go_wp2_with (go_at_call 49; refine (drop_is (rd_T26 l0 (i : Int)) nm Bn true _ ((HB.out.block Bn (Array.getElem?_eq_some_iff.1 HBN.out).1).trans HBN.out) HLK.out).mono ?_; rintro e w' ⟨rfl, hB⟩)
        go_ret
        exact ⟨by rw [← HR.out]; rfl, HB.out.trans (hB.mono HB.out.size)⟩
      | false =>
        have HR := Aside0.mk ((if_neg (show ¬ (false = true) by decide)).symm.trans HA2.out)
        go_wp2_with (go_at_call 49; refine (drop_is (rd_T26 l0 (i : Int)) nm Bn false _ ((HB.out.block Bn (Array.getElem?_eq_some_iff.1 HBN.out).1).trans HBN.out) HLK.out).mono ?_; rintro e w' ⟨rfl, hB⟩)
        have e1 := wrap_nextD i (Nat.lt_of_lt_of_le hlt HN.out)
        go_roundw
        case rel => exact ⟨i + 1, congrArg (Value.int .i64) e1, ⟨HR.out⟩, ⟨hlt⟩, ⟨HB.out.trans (hB.mono HB.out.size)⟩⟩
        case measure => exact measure_nextH l0.length i _ e1 hlt
    · have c3b0 : decide ((i : Int) < (l0.length : Int)) = false := decide_eq_false (by omega)
      have c3b1 : decide (i < l0.length) = false := decide_eq_false hlt
      have hA := HA.out
      rw [List.drop_of_length_le (by omega)] at hA
      have HR := Aside0.mk (Option.some.inj hA)
      clear hA HA
      go_wp2
      go_ret
      exact ⟨by rw [← HR.out]; rfl, HB.out⟩
end Go.Proofs.YthjhbhgfckaklabDoor.P
end
section
namespace Go.Proofs.YthjhbhgfckaklabDoor.P
open Go.RowKit Go.Proofs.YthjhbhgfckaklabDoorW.PrintWords Go.Proofs.YthjhbhgfckaklabDoorW.PrintLast Go.Proofs.YthjhbhgfckaklabDoorW.PrintMore
set_option linter.unusedVariables false
set_option linter.unusedSimpArgs false
/-- Headers without those of a name. -/
def dropM (nm : ByteArray) : List S26 → Option (List S26)
  | [] => some []
  | x :: l => (text_Like.f x.f0 nm).bind fun b => (dropM nm l).bind fun r => some (if b = true then r else x :: r)
theorem dropM_index (nm : ByteArray) : ∀ (l : List S26) (i : Nat) (r : List S26), dropM nm l = some r →
    (likeFrom nm l (i : Int) = some (-1) ∧ r = l) ∨ ∃ k rest, k < l.length ∧ likeFrom nm l (i : Int) = some ((i + k : Nat) : Int) ∧ dropM nm (l.drop (k + 1)) = some rest ∧ r = l.take k ++ rest
  | [], i, r, h => .inl ⟨rfl, (Option.some.inj h).symm⟩
  | x :: l, i, r, h => by
    unfold dropM at h
    obtain ⟨b, hb, h⟩ := Option.bind_eq_some_iff.mp h
    obtain ⟨q, hq, h⟩ := Option.bind_eq_some_iff.mp h
    have h := Option.some.inj h
    unfold likeFrom
    rw [hb, Option.bind_some]
    cases b with
    | true =>
      rw [if_pos rfl] at h
      exact .inr ⟨0, q, by simp, by rw [if_pos rfl]; rfl, hq, by rw [← h]; rfl⟩
    | false =>
      rw [if_neg (by decide)] at h
      rw [if_neg (by decide)]
      rcases dropM_index nm l (i + 1) q hq with ⟨h1, h2⟩ | ⟨k, rest, h1, h2, h3, h4⟩
      · exact .inl ⟨h1, by rw [← h, h2]⟩
      · refine .inr ⟨k + 1, rest, by simpa using h1, ?_, h3, by rw [← h, h4]; rfl⟩
        rw [show i + (k + 1) = i + 1 + k from by omega]
        exact h2
theorem dropM_length (nm : ByteArray) : ∀ (l r : List S26), dropM nm l = some r → r.length ≤ l.length
  | [], r, h => by rw [← Option.some.inj h]; exact Nat.le_refl _
  | x :: l, r, h => by
    unfold dropM at h
    obtain ⟨b, hb, h⟩ := Option.bind_eq_some_iff.mp h
    obtain ⟨q, hq, h⟩ := Option.bind_eq_some_iff.mp h
    have ih := dropM_length nm l q hq
    rw [← Option.some.inj h]
    split
    · rw [List.length_cons]; omega
    · rw [List.length_cons, List.length_cons]; omega
/-- 'clear(s)' on headers of a row of the call's own: what lies ahead of them stays. -/
theorem clear_row {w : World} {base g n cap i : Nat} {xs : List Value} (ty : TypeId) (h : w.ownsRow base 26 2 (.slice (some ⟨g, 0, none⟩) n cap) n xs) (hi : i < n) :
    ∃ W3, (Builtin.clear_ #[23] ty #[.slice (some ⟨g, i * 2, none⟩) (n - i) (cap - i)]).run Tryd.prog w = .ok (.tuple #[]) W3 ∧ W3.ownsRow base 26 2 (.slice (some ⟨g, 0, none⟩) i cap) i (xs.take (i * 2)) ∧ w.grownBy W3 (some g) := by
  have hb := own_base h g rfl
  rcases h.2 with ⟨h', _⟩ | ⟨g', cap', cur, h', _, hh, hn, hm, hs, ht⟩
  · cases h'
  · obtain ⟨rfl, rfl⟩ : g = g' ∧ cap = cap' := by
      injection h' with h1 h2 h3
      injection h1 with h1
      injection h1 with h1
      exact ⟨h1, h3⟩
    obtain ⟨zs, hz, hzl, hz1⟩ : ∃ zs : List Value, (Builtin.zeroCells #[.string ⟨#[]⟩, .string ⟨#[]⟩] (n - i)).toList = zs ∧ zs.length = (n - i) * 2 ∧ ∀ u ∈ zs, u.oneCell' = true := by
      refine ⟨_, rfl, by simp [Builtin.zeroCells], fun u hu => ?_⟩
      simp only [Builtin.zeroCells, Array.toList_map, List.mem_map] at hu
      obtain ⟨q, _, rfl⟩ := hu
      have : q % (#[Value.string ⟨#[]⟩, Value.string ⟨#[]⟩] : Array Value).size < 2 := Nat.mod_lt _ (by decide)
      generalize q % (#[Value.string ⟨#[]⟩, Value.string ⟨#[]⟩] : Array Value).size = y at this
      match y, this with
      | 0, _ => rfl
      | 1, _ => rfl
    have hst := run_storeCells_at Tryd.prog g (i * 2) 26 zs 0 cur w hh (by rw [hzl, hs]; omega) hz1
    rw [Nat.add_zero] at hst
    obtain ⟨m, hm'⟩ : ∃ m, n - i = m + 1 := ⟨n - i - 1, by omega⟩
    have hv : (zeroValue 26).run Tryd.prog w = .ok (.agg #[.string ⟨#[]⟩, .string ⟨#[]⟩]) w := by simp [Tryd.zeroValue26]
    have hzs : (Value.agg #[.string ⟨#[]⟩, .string ⟨#[]⟩]).cells = #[.string ⟨#[]⟩, .string ⟨#[]⟩] := rfl
    refine ⟨w.setRow g (cur.toList.take (i * 2) ++ zs ++ cur.toList.drop (i * 2 + zs.length)).toArray, ?_, ⟨by rw [List.length_take, h.1]; omega, .inr ⟨g, cap, _, rfl, hb, setRow_heap w g _ _ _ _ hh, by omega, hm, ?_, ?_⟩⟩, ?_⟩
    · rw [hm'] at hz ⊢
      simp only [Builtin.clear_, Sem.run_bind, Sem.run_pure, run_underlying Tryd.underlying23, Result.andThen_ok, List.getElem?_toArray, List.getElem?_cons_zero, hv, hzs, hz, hst]
      first | done | rfl | simp [hst]
    · simp only [List.size_toArray, List.length_append, List.length_take, List.length_drop, hzl]
      have : cur.toList.length = cap * 2 := by rw [Array.length_toList, hs]
      omega
    · have hcl : cur.toList.length = cap * 2 := by rw [Array.length_toList, hs]
      rw [← ht, List.take_take, Nat.min_eq_left (by omega)]
      show List.take (i * 2) (List.take (i * 2) cur.toList ++ zs ++ _) = _
      rw [List.append_assoc, List.take_append_of_le_length (by rw [List.length_take]; omega), List.take_take, Nat.min_self]
    · exact ⟨rfl, rfl, rfl, by simp [World.setRow], fun k _ hne => setRow_other w g k _ (by intro e; subst e; exact hne rfl)⟩
/-- The row is cut short, or told longer, as far as it reaches. -/
theorem own_cut {W : World} {base g n m cap size : Nat} {e : TypeId} {xs : List Value} (h : W.ownsRow base e size (.slice (some ⟨g, 0, none⟩) n cap) n xs) (hm : m ≤ n) : W.ownsRow base e size (.slice (some ⟨g, 0, none⟩) m cap) m (xs.take (m * size)) := own_take h hm

theorem take_set_next {α : Type} : ∀ (l : List α) (i : Nat) (x : α), i < l.length → (l.set i x).take (i + 1) = l.take i ++ [x]
  | [], i, x, h => absurd h (Nat.not_lt_zero _)
  | y :: l, 0, x, h => by simp
  | y :: l, i + 1, x, h => by
    show y :: (l.set i x).take (i + 1) = y :: (l.take i ++ [x])
    rw [take_set_next l i x (by simpa using h)]
set_option maxHeartbeats 4000000 in
set_option maxRecDepth 100000 in
theorem deleteFunc_row (base g cap : Nat) (l0 r : List S26) (nm : ByteArray) (Bn : Nat) (w : World) (hrow : w.ownsRow base 26 2 (.slice (some ⟨g, 0, none⟩) l0.length cap) l0.length (flH l0))
    (hBn : w.heap[Bn]? = some (.cells #[.string nm] 9 (0, 0))) (hl : l0.length ≤ 1000000) (h : dropM nm l0 = some r) :
    Calls Tryd.prog 47 #[.slice (some ⟨g, 0, none⟩) l0.length cap, .func (.func 49) #[] #[.pointer (some ⟨Bn, 0, none⟩)]] w fun e w' =>
      e = .returned (.slice (some ⟨g, 0, none⟩) r.length cap) ∧ w'.ownsRow base 26 2 (.slice (some ⟨g, 0, none⟩) r.length cap) r.length (flH r) ∧ w.grownBy w' (some g) := by
  have HROW := Aside0.mk hrow
  have HBN := Aside0.mk hBn
  have HL := Aside0.mk hl
  have hcap : l0.length ≤ cap := own_le hrow
  have HNE : Aside0 (Bn ≠ g) := ⟨fun e => by subst e; exact own_ne hrow hBn (by decide) rfl⟩
  rcases dropM_index nm l0 0 r h with ⟨h1, h2⟩ | ⟨k, rest, hk, h1, h2, h3⟩
  · subst h2
    have H1 := Aside0.mk h1
    clear h1 h hrow hBn hl
    go_enter Tryd.func47, Tryd.ntmps47
    go_wp2_with (go_at_call 68; refine (like_index (some ⟨g, 0, none⟩) cap r nm Bn (-1) _ (C_flH HROW.out) HBN.out H1.out).mono ?_; rintro e w' ⟨rfl, hB⟩)
    go_ret
    exact ⟨rfl, pw_own_below HROW.out hB, grown_of_below _ hB⟩
  · rw [Nat.zero_add] at h1
    have H1 := Aside0.mk h1
    have H2 := Aside0.mk h2
    have H3 := Aside0.mk h3
    clear h1 h2 h3 h hrow hBn hl
    have hne1 : ((k : Int) == -1) = false := beq_eq_false_iff_ne.2 (by omega)
    go_enter Tryd.func47, Tryd.ntmps47
    go_wp2_with (go_at_call 68; refine (like_index (some ⟨g, 0, none⟩) cap l0 nm Bn (k : Int) _ (C_flH HROW.out) HBN.out H1.out).mono ?_; rintro e w' ⟨rfl, hB⟩)
    have e0 := wrap_nextD k (by have := HL.out; omega)
    go_loopw [5, 6] (fun v5 v6 wr => ∃ (i j : Nat) (dk rt : List S26), v5 = .int .i64 (i : Int) ∧ v6 = .int .i64 (j : Int) ∧ Aside0 (i < j ∧ j ≤ l0.length) ∧ Aside0 (dk.length = l0.length) ∧ Aside0 (dropM nm (dk.drop j) = some rt) ∧ Aside0 (r = dk.take i ++ rt) ∧
      Aside0 (wr.ownsRow base 26 2 (.slice (some ⟨g, 0, none⟩) l0.length cap) l0.length (flH dk)) ∧ Aside0 (w.grownBy wr (some g))) (fun _ v6 _ => l0.length - (intOf v6).toNat)
    case atStart => exact ⟨k, k + 1, l0, rest, rfl, congrArg (Value.int .i64) e0, ⟨by omega, by omega⟩, ⟨rfl⟩, H2, H3, ⟨pw_own_below HROW.out hB⟩, ⟨grown_of_below _ hB⟩⟩
    case round =>
      obtain ⟨i, j, dk, rt, rfl, rfl, HIJ, HDL, HM, HR, HOW, HG⟩ := hrel
      clear H1 H2 H3 HROW e0 hB
      have hij := HIJ.out
      by_cases hlt : j < l0.length
      · have c3b0 : decide ((j : Int) < (l0.length : Int)) = true := decide_eq_true (by omega)
        have c3b1 : decide (j < l0.length) = true := decide_eq_true hlt
        have c3b2 : (0 : Int) ≤ (j : Int) := Int.natCast_nonneg j
        have c3b3 : (0 : Int) ≤ (i : Int) := Int.natCast_nonneg i
        have c3b4 : (i : Int) < (l0.length : Int) := by omega
        have hjd : j < dk.length := by rw [HDL.out]; exact hlt
        obtain ⟨hx0, hx1⟩ := flH_at HOW.out HDL.out j hjd
        have hm := HM.out
        rw [List.drop_eq_getElem_cons hjd] at hm
        unfold dropM at hm
        obtain ⟨b, hb, hm⟩ := Option.bind_eq_some_iff.mp hm
        obtain ⟨rt', hrt, hm⟩ := Option.bind_eq_some_iff.mp hm
        have HLK := Aside0.mk hb
        have HRT := Aside0.mk hrt
        have HM2 := Aside0.mk (Option.some.inj hm)
        have e1 := Aside0.mk (wrap_nextD j (by have := HL.out; omega))
        have e2 := Aside0.mk (wrap_nextD i (by have := HL.out; omega))
        obtain ⟨x, HX⟩ : ∃ x, Aside0 (dk[j] = x) := ⟨_, ⟨rfl⟩⟩
        rw [HX.out] at hx0 hx1
        have HLK' : Aside0 (text_Like.f x.f0 nm = some b) := ⟨by rw [← HX.out]; exact HLK.out⟩
        clear hm hb hrt HLK hij
        have hbr : wr.heap[Bn]? = some (.cells #[.string nm] 9 (0, 0)) := (HG.out.block Bn (Array.getElem?_eq_some_iff.1 HBN.out).1 (by have := HNE.out; simpa using this)).trans HBN.out
        have HBR : Aside0 ((wr.alloc (.cells #[.string x.f0, .string x.f1] 26)).heap[Bn]? = some (.cells #[.string nm] 9 (0, 0))) := ⟨(Below.heap_alloc _ _ Bn (Array.getElem?_eq_some_iff.1 hbr).1).trans hbr⟩
        clear hbr
        replace c3b2 := eq_true c3b2
        replace c3b3 := eq_true c3b3
        replace c3b4 := eq_true c3b4
        cases b with
        | true =>
          go_wp2_with (go_at_call 49; refine (drop_is x nm Bn true _ HBR.out HLK'.out).mono ?_; rintro e w2 ⟨rfl, hB2⟩)
          have hg2 : wr.grownBy w2 none := fresh_like hB2
          go_roundw
          case rel => exact ⟨i, j + 1, dk, rt', rfl, congrArg (Value.int .i64) e1.out, ⟨by have := HIJ.out; omega, hlt⟩, HDL, HRT, ⟨by rw [HR.out, ← HM2.out]; rfl⟩, ⟨HOW.out.kept hg2 (.inr (by simp [Value.ownBlock]))⟩, ⟨grown_trans HG.out ⟨hg2.os, hg2.tape, hg2.output, hg2.size, fun q hq _ => hg2.block q hq (by simp)⟩⟩⟩
          case measure => exact measure_nextH l0.length j _ e1.out hlt
        | false =>
          go_wp2_with (first
            | (go_at_call 49; refine (drop_is x nm Bn false _ HBR.out HLK'.out).mono ?_; rintro e w2 ⟨rfl, hB2⟩
               have hg2 : wr.grownBy w2 none := fresh_like hB2
               obtain ⟨hz0, hz1⟩ := fresh_cells hB2
               have hrow2 := HOW.out.kept hg2 (.inr (by simp [Value.ownBlock]))
               obtain ⟨hy0, hy1⟩ := flH_at hrow2 HDL.out i (by have := HIJ.out; omega)
               have hf0 := own_thaw hrow2 (i * 2)
               have hf1 := own_thaw hrow2 (i * 2 + 1)
               generalize dk[i]'_ = y at hy0 hy1
               have HRW2 := Aside0.mk hrow2
               have HG2 := Aside0.mk hg2
               clear hB2 hg2 hrow2))
          obtain ⟨r1, g1⟩ := HRW2.out.stored (i * 2) (.string x.f0)
          obtain ⟨r2, g2⟩ := r1.stored (i * 2 + 1) (.string x.f1)
          rw [flH_set] at r2
          have hg3 : w.grownBy w2 (some g) := grown_trans HG.out ⟨HG2.out.os, HG2.out.tape, HG2.out.output, HG2.out.size, fun q hq _ => HG2.out.block q hq (by simp)⟩
          refine ⟨⟨i + 1, j + 1, dk.set i x, rt', congrArg (Value.int .i64) e2.out, congrArg (Value.int .i64) e1.out, ⟨by have := HIJ.out; omega, hlt⟩, ⟨by rw [List.length_set]; exact HDL.out⟩, ⟨?_⟩, ⟨?_⟩, ⟨r2⟩, ⟨grown_trans (grown_trans hg3 g1) g2⟩⟩, measure_nextH l0.length j _ e1.out hlt⟩
          · rw [List.drop_set_of_lt (by have := HIJ.out; omega)]; exact HRT.out
          · rw [HR.out, ← HM2.out, if_neg (by decide), take_set_next dk i x (by have := HIJ.out; omega), HX.out, List.append_assoc]; rfl
      · have c3b0 : decide ((j : Int) < (l0.length : Int)) = false := decide_eq_false (by omega)
        have c3b1 : decide (j < l0.length) = false := decide_eq_false hlt
        have c3b3 : (0 : Int) ≤ (i : Int) := Int.natCast_nonneg i
        have c3b4 : (i : Int) ≤ (l0.length : Int) := by omega
        have c3b5 : i ≤ l0.length := by omega
        have c3b6 : ¬ (cap = i) := by omega
        have c3b7 : i ≤ cap := by omega
        have hm := HM.out
        rw [List.drop_of_length_le (by have := HDL.out; omega)] at hm
        have hi : r = dk.take i := by rw [HR.out, ← Option.some.inj hm, List.append_nil]
        have hil : r.length = i := by rw [hi, List.length_take, HDL.out]; omega
        obtain ⟨W3, hcl, hr3, hg3⟩ := clear_row 0 HOW.out (i := i) (by omega)
        rw [flH_take, ← hi] at hr3
        have HR3 := Aside0.mk hr3
        have HG3 := Aside0.mk hg3
        have HIL := Aside0.mk hil
        clear hm hi hil hr3 hg3 HM HR hij
        go_wp2
        go_ret
        have h3 := HR3.out
        have h4 := HIL.out
        rw [h4]
        exact ⟨rfl, h3, grown_trans HG.out HG3.out⟩
/-- The same at nil. -/
theorem deleteFunc_nil (nm : ByteArray) (Bn : Nat) (w : World) (hBn : w.heap[Bn]? = some (.cells #[.string nm] 9 (0, 0))) :
    Calls Tryd.prog 47 #[.slice none 0 0, .func (.func 49) #[] #[.pointer (some ⟨Bn, 0, none⟩)]] w fun e w' => e = .returned (.slice none 0 0) ∧ Below w.heap.size w w' := by
  have HBN := Aside0.mk hBn
  have hC : Kd.C k26 w none ([] : List S26).length [] := ⟨rfl, Nat.zero_le _, fun h => absurd h (Nat.lt_irrefl _)⟩
  have HC := Aside0.mk hC
  clear hBn hC
  go_enter Tryd.func47, Tryd.ntmps47
  go_wp2_with (go_at_call 68; refine (like_index none 0 [] nm Bn (-1) _ HC.out HBN.out rfl).mono ?_; rintro e w' ⟨rfl, hB⟩)
  go_ret
  exact ⟨rfl, hB⟩
theorem info_H : (Tryd.prog.info? 26).map (fun i => (i.zero, i.size, i.bytes)) = some (some (.agg #[.string ⟨#[]⟩, .string ⟨#[]⟩]), 2, 32) := info26
set_option maxHeartbeats 2000000 in
set_option maxRecDepth 100000 in
theorem clone_some (ad : Addr) (c : Nat) (l : List S26) (w : World) (hr : Kd.C k26 w (some ad) l.length l) (hl : l.length ≤ 1000000) :
    Calls Tryd.prog 48 #[.slice (some ad) l.length c] w fun e w' => ∃ g cap, e = .returned (.slice (some ⟨g, 0, none⟩) l.length cap) ∧ w'.ownsRow w.heap.size 26 2 (.slice (some ⟨g, 0, none⟩) l.length cap) l.length (flH l) ∧ Below w.heap.size w w' := by
  obtain ⟨i0, hi, hz0, hz1, hz2⟩ := info_parts info_H
  have A := Aside0.mk (cells_flH hr)
  have HL := Aside0.mk hl
  clear hr hl
  have q23 : ∀ (w : World) (a : Option Addr) (n c n' c' : Nat), (binOp .eql 23 (.slice a n c) (.slice none n' c')).run Tryd.prog w = .ok (.bool a.isNone) w := fun w a n c n' c' => Lib.run_eql_slice_nil w _ _ a n c n' c' Tryd.underlying23
  go_enter Tryd.func48, Tryd.ntmps48
  go_wp2_with (at_builtin; refine wpList_append_own _ rfl _ _ 23 rfl w.heap.size 26 i0 (.agg #[.string ⟨#[]⟩, .string ⟨#[]⟩]) 2 32 Tryd.underlying23 hi hz0 hz1 hz2 rfl (by decide) _ _ _ rfl (World.ownsRow_made w #[] 0 (Nat.le_refl _) (Nat.zero_le _) (by simp)) ad l.length c (flH l) rfl ?qc1 ?qc2 ?qc3 ?qc4 ?qc5 ?qc6 ?_)
  case qc1 => exact flH_length l
  case qc2 =>
    intro j u hj
    exact Lib.cell?_alloc_some _ (A.out j u hj)
  case qc3 => exact flH_one l
  case qc4 => have := HL.out; simp only [maxLen]; omega
  case qc5 => have := HL.out; omega
  case qc6 => simp
  intro v' w1 hown hgrow hnil
  go_wp2
  go_ret
  rcases hown.2 with ⟨h1, _⟩ | ⟨g, cap, cur, h1, _⟩
  · exact (hnil h1).elim
  · subst h1
    exact ⟨g, cap, rfl, hown, ((Below.refl _ w).alloc (Nat.le_refl _) _).grown hgrow (by simp) (by intro k hk; simp [Value.ownBlock] at hk; omega)⟩
set_option maxRecDepth 100000 in
theorem clone_nil (c : Nat) (w : World) :
    Calls Tryd.prog 48 #[.slice none 0 c] w fun e w' => e = .returned (.slice none 0 0) ∧ w' = w := by
  have q23 : ∀ (w : World) (a : Option Addr) (n c n' c' : Nat), (binOp .eql 23 (.slice a n c) (.slice none n' c')).run Tryd.prog w = .ok (.bool a.isNone) w := fun w a n c n' c' => Lib.run_eql_slice_nil w _ _ a n c n' c' Tryd.underlying23
  go_enter Tryd.func48, Tryd.ntmps48
  go_wp2
  go_ret
  exact ⟨rfl, rfl⟩
/-! ### head.Drop -/
-- EXT abatis/head.Drop {"rounds": 0, "making": 1}
def head_Drop.f (l0 : List S26) (a1 : ByteArray) : Option (List S26) := if l0.length ≤ 1000000 then dropM a1 l0 else none
set_option maxRecDepth 100000 in
theorem drop_own (A0 : Option Addr) (c0 : Nat) (l0 : List S26) (a1 : ByteArray) (r : List S26) (w : World) (hr0 : Kd.C k26 w A0 l0.length l0) (h : head_Drop.f l0 a1 = some r) :
    Calls Tryd.prog 20 #[.slice A0 l0.length c0, .string a1] w fun e w' => ∃ v, e = .returned v ∧ w'.ownsRow w.heap.size 26 2 v r.length (flH r) ∧ (0 < l0.length → ∃ g cap, v = .slice (some ⟨g, 0, none⟩) r.length cap ∧ l0.length ≤ cap) ∧ Below w.heap.size w w' := by
  unfold head_Drop.f at h
  split at h
  case isFalse => exact absurd h (by simp)
  rename_i hl
  have HL := Aside0.mk hl
  have H := Aside0.mk h
  have hbx : (w.alloc (.cells #[.string a1] 9)).heap[w.heap.size]? = some (.cells #[.string a1] 9 (0, 0)) := World.alloc_heap_new w _
  have HBX := Aside0.mk hbx
  clear h hl hbx
  cases A0 with
  | none =>
    have hn : l0 = [] := by
      by_cases hp : 0 < l0.length
      · obtain ⟨ad, e, _⟩ := hr0.2.2 hp
        cases e
      · exact List.eq_nil_of_length_eq_zero (by omega)
    subst hn
    obtain rfl := Option.some.inj H.out
    clear hr0
    go_enter Tryd.func20, Tryd.ntmps20
    go_wp2_with (first
      | (go_at_call 48; refine (clone_nil _ _).mono ?_; rintro e w' ⟨rfl, rfl⟩)
      | (go_at_call 47; refine (deleteFunc_nil a1 w.heap.size _ HBX.out).mono ?_; rintro e w' ⟨rfl, hB⟩))
    go_ret
    exact ⟨_, rfl, own_nil _ _ _ _, fun h => absurd h (Nat.lt_irrefl _), ((Below.refl _ w).alloc (Nat.le_refl _) _).trans (hB.mono (by simp))⟩
  | some ad =>
    have HR0 : Aside0 (Kd.C k26 (w.alloc (.cells #[.string a1] 9)) (some ad) l0.length l0) := ⟨Kd.C_below hr0 ((Below.refl _ w).alloc (Nat.le_refl _) _)⟩
    clear hr0
    go_enter Tryd.func20, Tryd.ntmps20
    go_wp2_with (first
      | (go_at_call 48; refine (clone_some ad c0 l0 _ HR0.out HL.out).mono ?_; rintro e w1 ⟨g, cap, rfl, hown, hB⟩)
      | (go_at_call 47; refine (deleteFunc_row _ g cap l0 r a1 w.heap.size _ hown ((hB.block _ (by simp)).trans HBX.out) HL.out H.out).mono ?_; rintro e w2 ⟨rfl, hown2, hg2⟩))
    go_ret
    have hB1 : Below w.heap.size w w1 := ((Below.refl _ w).alloc (Nat.le_refl _) _).trans (hB.mono (by simp))
    have hgb := own_base hown2 g rfl
    refine ⟨_, rfl, own_weaken hown2 (by simp), fun _ => ⟨g, cap, rfl, own_le hown⟩, hB1.trans ⟨hg2.os, hg2.tape, hg2.output, hg2.size, fun k hk => hg2.block k (Nat.lt_of_lt_of_le hk hB1.size) (by simp at hgb; intro e; injection e with e; omega)⟩⟩
theorem head_Drop.calls (A0 : Option Addr) (c0 : Nat) (l0 : List S26) (a1 : ByteArray) (r : List S26) (w : World) (hr0 : Kd.C k26 w A0 l0.length l0) (hc0 : l0.length ≤ c0) (h : head_Drop.f l0 a1 = some r) :
    Calls Tryd.prog 20 #[.slice A0 l0.length c0, .string a1] w fun e w' => ∃ v0_ : Value, e = .returned v0_ ∧ Kd.R k26 26 w' w.heap.size (fun _ => True) v0_ r ∧ Below w.heap.size w w' :=
  (drop_own A0 c0 l0 a1 r w hr0 h).mono fun e w' ⟨v, he, ho, _, hB⟩ => ⟨v, he, R_flH ho, hB⟩
end Go.Proofs.YthjhbhgfckaklabDoor.P
end
section
namespace Go.Proofs.YthjhbhgfckaklabDoor.P
open Go.RowKit Go.Shelf Go.Proofs.YthjhbhgfckaklabDoorW.PrintWords Go.Proofs.YthjhbhgfckaklabDoorW.PrintLast Go.Proofs.YthjhbhgfckaklabDoorW.PrintMore
set_option linter.unusedVariables false
set_option linter.unusedSimpArgs false
attribute [local go_sem] Oper.semAt_some
theorem pure_from {β : Type} {B : Nat} (p : β → Prop) : OwnFrom B (fun s (_ : World) => p s) := fun _ _ _ _ h _ _ => h
theorem below_cell {n : Nat} {w W : World} {b : Nat} {v : Value} (h : Below n w W) (hb : n ≤ b) : Below n w (W.setCell ⟨b, 0, none⟩ v) :=
  h.trans ⟨rfl, rfl, rfl, (KeepsWalks.setCell W _ v).size, fun k hk => Below.heap_setCell W _ v k (by show k ≠ b; omega)⟩
theorem box_put {W : World} {B D : Nat} {t : TypeId} {v : Value} {o' : Obj} {ds : Option (List Deferred)} (h : Boxed W B t v) (hD : W.heap[D]? = some (.deferred ds)) : Boxed (W.putObj D o') B t v :=
  h.kept (grownBy_putObj' W D o') (fun e => by injection e with e; subst e; rw [show W.heap[B]? = _ from h] at hD; cases hD)
theorem results_two {fn : Func} {p q : Tmp} (h : fn.results = #[.cell p 9, .cell q 4]) (tmps : Array Value) (w : World) (g1 g2 : Nat) {s : ByteArray} {b : Bool}
    (hp : tmps.getD p undef = .pointer (some ⟨g1, 0, none⟩)) (hq : tmps.getD q undef = .pointer (some ⟨g2, 0, none⟩)) (h1 : Boxed w g1 9 (.string s)) (h2 : Boxed w g2 4 (.bool b)) :
    (results fn tmps).run Tryd.prog w = .ok (.tuple #[.string s, .bool b]) w := by
  have hp' : tmps[p]?.getD undef = .pointer (some ⟨g1, 0, none⟩) := by simpa using hp
  have hq' : tmps[q]?.getD undef = .pointer (some ⟨g2, 0, none⟩) := by simpa using hq
  have c1 := h1.cell
  have c2 := h2.cell
  simp [results, h, hp', hq', asAddr, loadVar, c1, c2, go_sem]
def firstV : List (Nat × S26) → ByteArray × Bool
  | [] => (⟨#[]⟩, false)
  | x :: _ => (x.2.f1, true)
-- EXT abatis/head.Get {"rounds": 0, "making": 1}
def head_Get.f (l0 : List S26) (a1 : ByteArray) : Option (ByteArray × Bool) := if l0.length ≤ 1000000 then (ofList a1 l0 0).bind fun r => some (firstV r) else none
set_option maxRecDepth 100000 in
set_option maxHeartbeats 4000000 in
theorem get_calls (A0 : Option Addr) (c0 : Nat) (l0 : List S26) (a1 : ByteArray) (r : ByteArray × Bool) (w : World) (hr0 : Kd.C k26 w A0 l0.length l0) (hc0 : l0.length ≤ c0) (h : head_Get.f l0 a1 = some r) :
    Calls Tryd.prog 22 #[.slice A0 l0.length c0, .string a1] w fun e w' => e = .returned (.tuple #[.string r.1, .bool r.2]) ∧ Below w.heap.size w w' := by
  unfold head_Get.f at h
  split at h
  case isFalse => exact absurd h (by simp)
  rename_i hs
  obtain ⟨xs, hxs, h⟩ := Option.bind_eq_some_iff.mp h
  have HXS := Aside0.mk hxs
  have HR := Aside0.mk (Option.some.inj h)
  have HR0 := Aside0.mk hr0
  clear h hs hxs hr0 hc0
  refine (callsIn_wide (n := 9)).1 ?_
  refine callsIn_of_wp_marks Tryd.func22 rfl trivial ?_ rfl
  simp only [Tryd.ntmps22, List.size_toArray, List.length_cons, List.length_nil, Nat.reduceAdd, Nat.reduceSub, Array.replicate_succ, Array.replicate_zero, List.push_toArray, List.append_toArray, List.nil_append, List.cons_append]
  gi_wp2_with (refine ⟨trivial, ?_⟩; gi_at_call 45; refine (of_in _ _ _ _ _ _).mono ?_; rintro e w' ⟨rfl, rfl⟩)
  have bV := (((Boxed.new w 9 (.string ⟨#[]⟩)).alloc (.cells #[.bool false] 4)).alloc (.cells #[.slice A0 l0.length c0] 23)).alloc (.cells #[.string a1] 9)
  have bO := ((Boxed.new (w.alloc (.cells #[.string ⟨#[]⟩] 9)) 4 (.bool false)).alloc (.cells #[.slice A0 l0.length c0] 23)).alloc (.cells #[.string a1] 9)
  have bL := (Boxed.new ((w.alloc (.cells #[.string ⟨#[]⟩] 9)).alloc (.cells #[.bool false] 4)) 23 (.slice A0 l0.length c0)).alloc (.cells #[.string a1] 9)
  have bN := Boxed.new (((w.alloc (.cells #[.string ⟨#[]⟩] 9)).alloc (.cells #[.bool false] 4)).alloc (.cells #[.slice A0 l0.length c0] 23)) 9 (.string a1)
  simp only [World.size_alloc] at bV bO bL bN
  have hB0 : Below w.heap.size w ((((w.alloc (.cells #[.string ⟨#[]⟩] 9)).alloc (.cells #[.bool false] 4)).alloc (.cells #[.slice A0 l0.length c0] 23)).alloc (.cells #[.string a1] 9)) := ((((Below.refl _ w).alloc (Nat.le_refl _) _).alloc (by simp) _).alloc (by simp; omega) _).alloc (by simp; omega) _
  have hsz : ((((w.alloc (.cells #[.string ⟨#[]⟩] 9)).alloc (.cells #[.bool false] 4)).alloc (.cells #[.slice A0 l0.length c0] 23)).alloc (.cells #[.string a1] 9)).heap.size = w.heap.size + 4 := by simp
  obtain ⟨W0, hW0⟩ : ∃ W0, (((w.alloc (.cells #[.string ⟨#[]⟩] 9)).alloc (.cells #[.bool false] 4)).alloc (.cells #[.slice A0 l0.length c0] 23)).alloc (.cells #[.string a1] 9) = W0 := ⟨_, rfl⟩
  rw [hW0] at bV bO bL bN hB0 hsz ⊢
  clear hW0
  refine wpIn_rangeFunc_ownH rfl (by omega) (gf := 69) (lb := #[.pointer (some ⟨w.heap.size + 1 + 1, 0, none⟩), .pointer (some ⟨w.heap.size + 1 + 1 + 1, 0, none⟩)]) rfl trivial (enters_of Tryd.func69 (by kernel_rfl) rfl)
    (of_stops _ (by omega) (w.heap.size + 1 + 1) (w.heap.size + 1 + 1 + 1) w A0 c0 l0 a1 xs HR0.out HXS.out W0 hB0 bL bN) kp_t (kp_b (by omega) (by omega)) (Below.refl _ _) (fun _ => rfl)
    (fun pre W => pre = [] ∧ (Boxed W w.heap.size 9 (.string ⟨#[]⟩) ∧ (Boxed W (w.heap.size + 1) 4 (.bool false) ∧ (Boxed W (w.heap.size + 1 + 1 + 1) 9 (.string a1) ∧ Below w.heap.size w W))))
    (fun c pre W => (c = .ret ∧ pre.length = 1) ∧ (Boxed W w.heap.size 9 (.string (firstV pre).1) ∧ (Boxed W (w.heap.size + 1) 4 (.bool true) ∧ Below w.heap.size w W)))
    (OwnFrom.and (pure_from _) (OwnFrom.and (Own.from (boxed_own _ _ _) _) (OwnFrom.and (Own.from (boxed_own _ _ _) _) (OwnFrom.and (Own.from (boxed_own _ _ _) _) (ownFrom_below (Nat.le_refl _) (by omega))))))
    (fun c => OwnFrom.and (pure_from _) (OwnFrom.and (Own.from (boxed_own _ _ (fun pre => .string (firstV pre).1)) _) (OwnFrom.and (Own.from (boxed_own _ _ _) _) (ownFrom_below (Nat.le_refl _) (by omega)))))
    ⟨rfl, bV, bO, bN, hB0⟩
    (fun x a' W => ∃ Bx, w.heap.size + 2 < Bx ∧ W.heap[Bx]? = some (.cells #[.string x.2.f0, .string x.2.f1] 26 (0, 0)) ∧ a' = { tmps := #[.slice A0 l0.length c0, .string a1, undef, undef, .pointer (some ⟨w.heap.size, 0, none⟩), .pointer (some ⟨w.heap.size + 1, 0, none⟩), undef, .pointer (some ⟨Bx, 0, none⟩), .slice A0 l0.length c0, .string a1, .func (.func 69) #[] #[.pointer (some ⟨w.heap.size + 1 + 1, 0, none⟩), .pointer (some ⟨w.heap.size + 1 + 1 + 1, 0, none⟩)], .int .i64 (x.1 : Int), .agg #[.string x.2.f0, .string x.2.f1], undef, undef], defers := [] })
    (fun x a' _ X Y row hs hg hr => by obtain ⟨Bx, h1, h2, h3⟩ := hs; exact ⟨Bx, h1, cells_kept h2 hg (fun r e => (hr r e).2), h3⟩)
    ?assign ?body ?done ?stop
  case assign =>
    rintro l pre x W K ⟨hpre, bV, bO, bN1, hB1⟩ hK
    have hlt := bN1.lt
    dsimp only [encH]
    gi_wp2
    exact hK _ _ ((KeepsOthers.alloc _ _).from _) ⟨(Below.refl _ W).alloc hB1.size _, Below.heap_alloc _ _ _ bN1.lt⟩ ⟨hpre, bV.alloc _, bO.alloc _, bN1.alloc _, hB1.alloc hB1.size _⟩ ⟨W.heap.size, by omega, World.alloc_heap_new W _, rfl⟩
  case body =>
    rintro l pre x a' W hl hrl ⟨rfl, bV, bO, bN1, hB1⟩ ⟨Bx, hBx, bX, rfl⟩ hlt
    have hx1 : W.cell? ⟨Bx, 1, none⟩ = some (.string x.2.f1) := by simp [World.cell?, bX]
    have hc0 := bV.cell
    have hf0 := bV.frozen
    have hc1 := bO.cell
    have hf1 := bO.frozen
    gi_wp2
    refine ⟨((KeepsOthers.setCell _ _ _).trans (KeepsOthers.setCell _ _ _)).from _, ⟨rfl, rfl⟩, (bV.set _).other (by omega) _, (bO.other (by omega) _).set _, below_cell (below_cell hB1 (by omega)) (by omega)⟩
  case done =>
    rintro D ys W hD rfl ⟨rfl, bV, bO, bN1, hB1⟩ hK
    have hc0 := bV.cell
    have hf0 := bV.frozen
    have hc1 := bO.cell
    have hf1 := bO.frozen
    have hv2 := (bV.set (.string ⟨#[]⟩)).other (B' := w.heap.size + 1) (by omega) (.bool false)
    have ho2 := (bO.other (B' := w.heap.size) (by omega) (.string ⟨#[]⟩)).set (.bool false)
    have hB2 := below_cell (below_cell hB1 (b := w.heap.size) (v := .string ⟨#[]⟩) (by omega)) (b := w.heap.size + 1) (v := .bool false) (by omega)
    have hK2 : ((W.setCell ⟨w.heap.size, 0, none⟩ (.string ⟨#[]⟩)).setCell ⟨w.heap.size + 1, 0, none⟩ (.bool false)).heap[D]? = some (.deferred (some [])) := ((Below.heap_setCell _ _ _ D (by show D ≠ w.heap.size + 1; omega)).trans (Below.heap_setCell _ _ _ D (by show D ≠ w.heap.size; omega))).trans hK
    gi_wp2
    refine ⟨by simp, .inl ⟨_, _, rfl, run_takeDeferred hK2, ?_⟩⟩
    exact ⟨_, results_two rfl _ _ _ _ (by rfl) (by rfl) (box_put hv2 hK2) (box_put ho2 hK2), by rw [← HR.out]; rfl, hB2.trans (belowK_b (w := w) (Nat.le_refl _) _ D _ _ (by omega) hK2 rfl rfl)⟩
  case stop =>
    rintro D c pre W hD hpre ⟨⟨rfl, hp1⟩, bV, bO, hB1⟩ hK
    gi_wp2
    refine ⟨by simp, .inl ⟨_, _, rfl, run_takeDeferred hK, ?_⟩⟩
    refine ⟨_, results_two rfl _ _ _ _ (by rfl) (by rfl) (box_put bV hK) (box_put bO hK), ?_, hB1.trans (belowK_b (w := w) (Nat.le_refl _) _ D _ _ (by omega) hK rfl rfl)⟩
    obtain ⟨ys, rfl⟩ := hpre
    match pre, hp1 with
    | [x], _ => rw [← HR.out]; rfl
theorem head_Get.calls (A0 : Option Addr) (c0 : Nat) (l0 : List S26) (a1 : ByteArray) (r1 : ByteArray) (r2 : Bool) (w : World) (hr0 : Kd.C k26 w A0 l0.length l0) (hc0 : l0.length ≤ c0) (h : head_Get.f l0 a1 = some (r1, r2)) :
    Calls Tryd.prog 22 #[.slice A0 l0.length c0, .string a1] w fun e w' => e = .returned (.tuple #[.string r1, .bool r2]) ∧ Below w.heap.size w w' := get_calls A0 c0 l0 a1 (r1, r2) w hr0 hc0 h
end Go.Proofs.YthjhbhgfckaklabDoor.P
end
section
namespace Go.Proofs.YthjhbhgfckaklabDoor.P
open Go.RowKit Go.Shelf Go.Proofs.YthjhbhgfckaklabDoorW.PrintWords Go.Proofs.YthjhbhgfckaklabDoorW.PrintLast Go.Proofs.YthjhbhgfckaklabDoorW.PrintMore
set_option linter.unusedVariables false
set_option linter.unusedSimpArgs false
section
variable {P : Program}
/-- 'copy' over elements of two cells, into a row that is known whole. -/
theorem run_copy_two (w : World) (dT sT ty elem : TypeId) (g o dLen dCap : Nat) (a : Addr) (sLen sCap : Nat) (cur : Array Value) (t : TypeId) (cs : List Value)
    (hu : P.underlying dT = some (.slice elem)) (hs : (P.info? elem).map (·.size) = some 2)
    (hg : w.heap[g]? = some (.cells cur t (0, 0))) (hn : cs.length = Nat.min sLen dLen * 2)
    (hsrc : ∀ j v, cs[j]? = some v → w.cell? (a.add j) = some v) (hfit : o + cs.length ≤ cur.size) (h1 : ∀ v ∈ cs, v.oneCell' = true) :
    (Builtin.copy_ #[dT, sT] ty #[.slice (some ⟨g, o, none⟩) dLen dCap, .slice (some a) sLen sCap]).run P w =
      .ok (goInt (Nat.min sLen dLen)) (w.setRow g (cur.toList.take o ++ cs ++ cur.toList.drop (o + cs.length)).toArray) := by
  have hl := run_loadCells_list (P := P) w a cs hsrc
  have hst := run_storeCells_at P g o t cs 0 cur w hg (by simpa using hfit) h1
  cases hq : P.info? elem with
  | none => simp [hq] at hs
  | some i =>
    have hi : i.size = 2 := by simpa [hq] using hs
    simp [Builtin.copy_, run_underlying hu, Builtin.lenOf, Builtin.firstCells, sizeOf, typeInfo, hq, hi, ← hn, hl, hst]
/-- The operation 'copy' for the walk, where its run is known by an equation. -/
theorem wp_copy_runH (w : World) {o : Oper} {a : Act} {K : Act → World → Prop} {Q : Exit → Act → World → Prop} (d s : Operand) (t t' : TypeId)
    (ho : o.op = .call { callee := .builtin .copy, args := #[d, s], argTypes := #[t, t'] }) (v u : Value) (hd : a.eval d = v) (hs : a.eval s = u) {v' : Value} {w' : World}
    (hr : (Builtin.copy_ #[t, t'] o.type #[v, u]).run P w = .ok v' w') (h : K (a.put o.dst v') w') : o.wp P a w K Q := by
  unfold Oper.wp execOp
  simp only [ho, resolve, invoke, builtin, Sem.run_bind, Sem.run_pure, Result.andThen_ok, List.map_toArray, List.map_cons, List.map_nil, hd, hs, hr]
  exact h
theorem wpList_copy_runH (w : World) {ops : Array Oper} {rest : List Oper} {o : Oper} {a : Act} {Q : Exit → Act → World → Prop} (hgd : o.guard = none) (d s : Operand) (t t' : TypeId)
    (ho : o.op = .call { callee := .builtin .copy, args := #[d, s], argTypes := #[t, t'] }) (v u : Value) (hd : a.eval d = v) (hs : a.eval s = u) {v' : Value} {w' : World}
    (hr : (Builtin.copy_ #[t, t'] o.type #[v, u]).run P w = .ok v' w') (h : wpList P ops Q rest (a.put o.dst v') w') : wpList P ops Q (o :: rest) a w :=
  wpList_plain hgd fun _ hK => wp_copy_runH w d s t t' ho v u hd hs hr (hK _ _ h)
theorem step_copy_runH {ops : Array Oper} {o : Oper} {a : Act} {w : World} {K : Act → World → Prop} {Q : Exit → Act → World → Prop} {E : Prop}
    (hg : o.guard = none) (d x : Operand) (dT sT : TypeId) (hop : o.op = Op.call { callee := Callee.builtin Builtin.copy, args := #[d, x], argTypes := #[dT, sT] })
    (v u : Value) (hd : a.eval d = v) (hx : a.eval x = u) {v' : Value} {w' : World} (hr : (Builtin.copy_ #[dT, sT] o.type #[v, u]).run P w = .ok v' w') (hK : K (a.put o.dst v') w') :
    if Region.wanted o (yielded ops a.tmps) = true then Oper.wp P o a w K Q else E := by
  have hw : Region.wanted o (yielded ops a.tmps) = true := by simp [Region.wanted, hg]
  rw [if_pos hw]
  unfold Oper.wp
  simp [execOp, hop, resolve, invoke, builtin, hd, hx, hr, Result.andThen]
  exact hK
end
theorem wrap_one (i : Nat) (h : i ≤ 1000000) : wrap64 ((i : Int) + 1) = (i : Int) + 1 := by unfold wrap64; omega
theorem wrap_oneK (i : Nat) (h : i ≤ 1000000) : IntKind.i64.wrap ((i : Int) + 1) = (i : Int) + 1 := by rw [IntKind.wrap_i64]; omega
theorem size_setRow (w : World) (g : Nat) (cs : Array Value) : (w.setRow g cs).heap.size = w.heap.size := by simp [World.setRow]
def inH (l : List S26) (i : Nat) (x : S26) : List S26 := l.take i ++ x :: l.drop i
theorem inH_length (l : List S26) (i : Nat) (x : S26) (h : i ≤ l.length) : (inH l i x).length = l.length + 1 := by unfold inH; rw [List.length_append, List.length_cons, List.length_take, List.length_drop]; omega
theorem flH_inH (l : List S26) (i : Nat) (x : S26) : flH (inH l i x) = (flH l).take (i * 2) ++ ([.string x.f0, .string x.f1] ++ (flH l).drop (i * 2)) := by
  unfold inH; rw [flH_append, flH_take, flH_drop]; rfl
set_option maxHeartbeats 4000000 in
set_option maxRecDepth 100000 in
theorem insert_end (base g cap : Nat) (l : List S26) (x : S26) (vb : Nat) (w : World) (hrow : w.ownsRow base 26 2 (.slice (some ⟨g, 0, none⟩) l.length cap) l.length (flH l))
    (hv : w.heap[vb]? = some (.cells #[.string x.f0, .string x.f1] 26 (0, 0))) (hl : l.length ≤ 1000000) (hb : base ≤ w.heap.size) :
    Calls Tryd.prog 46 #[.slice (some ⟨g, 0, none⟩) l.length cap, .int .i64 (l.length : Int), .slice (some ⟨vb, 0, none⟩) 1 1] w fun e w' =>
      ∃ v', e = .returned v' ∧ w'.ownsRow base 26 2 v' (l.length + 1) (flH (inH l l.length x)) ∧ w.grownBy w' (some g) := by
  obtain ⟨i0, hi, hz0, hz1, hz2⟩ := info_parts info_H
  have hc : l.length ≤ cap := own_le hrow
  have HROW := Aside0.mk hrow
  have HL := Aside0.mk hl
  have HV : Aside0 (∀ j u, ([.string x.f0, .string x.f1] : List Value)[j]? = some u → w.cell? ((⟨vb, 0, none⟩ : Addr).add j) = some u) := ⟨fun j u hj => by
    rw [add_plain]
    match j, hj with
    | 0, hj => cases hj; simp [World.cell?, hv]
    | 1, hj => cases hj; simp [World.cell?, hv]⟩
  clear hrow hl hv
  rcases Nat.lt_or_ge l.length cap with hlt | hge
  · have hne : ¬ (cap = l.length) := by omega
    go_enter Tryd.func46, Tryd.ntmps46
    go_wp2_with (at_builtin; refine wpList_append_own _ rfl _ _ 23 rfl base 26 i0 (.agg #[.string ⟨#[]⟩, .string ⟨#[]⟩]) 2 32 Tryd.underlying23 hi hz0 hz1 hz2 rfl (by decide) _ _ _ rfl HROW.out ⟨vb, 0, none⟩ 1 1 [.string x.f0, .string x.f1] rfl rfl HV.out ?qc3 ?qc4 ?qc5 hb ?_)
    case qc3 =>
      intro u hu
      rcases List.mem_cons.1 hu with rfl | hu
      · rfl
      · rcases List.mem_cons.1 hu with rfl | hu
        · rfl
        · cases hu
    case qc4 => have := HL.out; simp only [maxLen]; omega
    case qc5 => have := HL.out; omega
    intro v' w1 hown hgrow hnil
    go_wp2
    go_ret
    refine ⟨v', rfl, ?_, hgrow⟩
    rw [flH_inH, List.take_of_length_le (by rw [flH_length]; omega), List.drop_of_length_le (by rw [flH_length]; omega)]
    simpa using hown
  · have heq : cap = l.length := by omega
    subst heq
    go_enter Tryd.func46, Tryd.ntmps46
    go_wp2_with (at_builtin; refine wpList_append_own _ rfl _ _ 23 rfl base 26 i0 (.agg #[.string ⟨#[]⟩, .string ⟨#[]⟩]) 2 32 Tryd.underlying23 hi hz0 hz1 hz2 rfl (by decide) _ _ _ rfl HROW.out ⟨vb, 0, none⟩ 1 1 [.string x.f0, .string x.f1] rfl rfl HV.out ?qc3 ?qc4 ?qc5 hb ?_)
    case qc3 =>
      intro u hu
      rcases List.mem_cons.1 hu with rfl | hu
      · rfl
      · rcases List.mem_cons.1 hu with rfl | hu
        · rfl
        · cases hu
    case qc4 => have := HL.out; simp only [maxLen]; omega
    case qc5 => have := HL.out; omega
    intro v' w1 hown hgrow hnil
    go_wp2
    go_ret
    refine ⟨v', rfl, ?_, hgrow⟩
    rw [flH_inH, List.take_of_length_le (by rw [flH_length]; omega), List.drop_of_length_le (by rw [flH_length]; omega)]
    simpa using hown
set_option maxHeartbeats 4000000 in
set_option maxRecDepth 100000 in
theorem insert_shift (base g cap i : Nat) (l : List S26) (x : S26) (vb : Nat) (w : World) (hrow : w.ownsRow base 26 2 (.slice (some ⟨g, 0, none⟩) l.length cap) l.length (flH l))
    (hi : i < l.length) (hroom : l.length + 1 ≤ cap) (hv : w.heap[vb]? = some (.cells #[.string x.f0, .string x.f1] 26 (0, 0))) (hvg : vb ≠ g) (hl : l.length ≤ 1000000) :
    Calls Tryd.prog 46 #[.slice (some ⟨g, 0, none⟩) l.length cap, .int .i64 (i : Int), .slice (some ⟨vb, 0, none⟩) 1 1] w fun e w' =>
      ∃ v', e = .returned v' ∧ w'.ownsRow base 26 2 v' (l.length + 1) (flH (inH l i x)) ∧ w.grownBy w' (some g) := by
  have hbg := own_base hrow g rfl
  rcases hrow.2 with ⟨h', _⟩ | ⟨g', cap', cur, h', _, hh, hn, hm, hs, ht⟩
  · cases h'
  obtain ⟨rfl, rfl⟩ : g = g' ∧ cap = cap' := by
    injection h' with h1 h2 h3
    injection h1 with h1
    injection h1 with h1
    exact ⟨h1, h3⟩
  have u23 := run_underlying (P := Tryd.prog) Tryd.underlying23
  have hcl : cur.toList.length = cap * 2 := by rw [Array.length_toList, hs]
  have hm63 : cap ≤ 9223372036854775807 := hm
  have hsz : (Tryd.prog.info? 26).map (·.size) = some 2 := by
    obtain ⟨i0, hi0, h0, h1, h2⟩ := info_parts info_H
    rw [hi0]; simp [h1]
  obtain ⟨n, hnl⟩ : ∃ n, l.length = n := ⟨_, rfl⟩
  have hz26 : ∀ w, (Go.sizeOf 26).run Tryd.prog w = .ok 2 w := fun w => by simp [go_sem]
  have hov : ∀ lb cb, (callFunc 70 #[.slice (some ⟨vb, 0, none⟩) 1 1, .slice (some ⟨g, (i + 1) * 2, none⟩) lb cb]).run Tryd.prog w = .ok (.value (.bool false)) w := fun lb cb => by
    rw [run_callFunc_extern Tryd.func70 (by kernel_rfl) (by kernel_rfl) (by kernel_rfl) (e := Extern.SlicesOverlaps.overlaps #[23, 23] #[4]) (by kernel_rfl),
      Lib.run_overlaps_apart w 23 4 26 Tryd.underlying23 2 hz26 ⟨vb, 0, none⟩ ⟨g, (i + 1) * 2, none⟩ 1 1 lb cb hvg 26 26 2 (cap * 2) (by simp [World.shape?, hv]) (by simp [World.shape?, hh, hs]) (by omega) (by simp [World.frozen?, hv]) (by simp [World.frozen?, hv])]
    rfl
  have hcp1 : ∀ ty dc sc, (Builtin.copy_ #[23, 23] ty #[.slice (some ⟨g, (i + 1) * 2, none⟩) (n - i) dc, .slice (some ⟨g, i * 2, none⟩) (n + 1 - i) sc]).run Tryd.prog w.drew = _ := fun ty dc sc =>
    run_copy_two w.drew _ _ ty 26 g ((i + 1) * 2) (n - i) dc ⟨g, i * 2, none⟩ (n + 1 - i) sc cur 26 (flH (l.drop i)) Tryd.underlying23 hsz hh (by rw [flH_length, List.length_drop, hnl]; simp only [Nat.min_def]; split <;> omega)
      (fun j v hj => by
        rw [Addr.add_lit]
        have hj2 : (flH l)[i * 2 + j]? = some v := by rw [← flH_drop] at hj; rwa [List.getElem?_drop] at hj
        have := hrow.cells (g := g) rfl (i * 2 + j) v hj2
        rwa [add_plain] at this)
      (by rw [flH_length, List.length_drop, hs, hnl]; omega) (flH_one _)
  have hflx : ∀ u ∈ ([.string x.f0, .string x.f1] : List Value), u.oneCell' = true := by
    intro u hu
    rcases List.mem_cons.1 hu with rfl | hu
    · rfl
    · rcases List.mem_cons.1 hu with rfl | hu
      · rfl
      · cases hu
  obtain ⟨cur1, hc1⟩ : ∃ cur1 : Array Value, (cur.toList.take ((i + 1) * 2) ++ flH (l.drop i) ++ cur.toList.drop ((i + 1) * 2 + (flH (l.drop i)).length)).toArray = cur1 := ⟨_, rfl⟩
  rw [hc1] at hcp1
  obtain ⟨W1, hW1⟩ : ∃ W1, w.drew.setRow g cur1 = W1 := ⟨_, rfl⟩
  rw [hW1] at hcp1
  have hh1 : W1.heap[g]? = some (.cells cur1 26 (0, 0)) := by rw [← hW1]; exact setRow_heap w.drew g cur _ _ _ hh
  have hv1 : W1.heap[vb]? = some (.cells #[.string x.f0, .string x.f1] 26 (0, 0)) := by rw [← hW1]; exact (setRow_other w.drew g vb _ hvg).trans hv
  have hs1 : cur1.size = cap * 2 := by
    rw [← hc1]
    simp only [List.size_toArray, List.length_append, List.length_take, List.length_drop, flH_length, hcl]
    omega
  obtain ⟨cur2, hc2⟩ : ∃ cur2 : Array Value, (cur1.toList.take (i * 2) ++ [Value.string x.f0, Value.string x.f1] ++ cur1.toList.drop (i * 2 + ([.string x.f0, .string x.f1] : List Value).length)).toArray = cur2 := ⟨_, rfl⟩
  have hcp2 : ∀ (W : World), W.heap = W1.heap → ∀ ty dc, (Builtin.copy_ #[23, 23] ty #[.slice (some ⟨g, i * 2, none⟩) (n + 1 - i) dc, .slice (some ⟨vb, 0, none⟩) 1 1]).run Tryd.prog W = .ok (goInt 1) (W.setRow g cur2) := fun W hW ty dc =>
    (run_copy_two W _ _ ty 26 g (i * 2) (n + 1 - i) dc ⟨vb, 0, none⟩ 1 1 cur1 26 [.string x.f0, .string x.f1] Tryd.underlying23 hsz (by rw [hW]; exact hh1) (by have : Nat.min 1 (n + 1 - i) = 1 := Nat.min_eq_left (by omega); rw [this]; rfl)
      (fun j v hj => by
        rw [add_plain]
        match j, hj with
        | 0, hj => cases hj; simp [World.cell?, hW, hv1]
        | 1, hj => cases hj; simp [World.cell?, hW, hv1])
      (by rw [hs1]; show i * 2 + 2 ≤ cap * 2; omega) hflx).trans (by rw [hc2, show Nat.min 1 (n + 1 - i) = 1 from Nat.min_eq_left (show 1 ≤ n + 1 - i by omega)]; rfl)
  have hs2 : cur2.size = cap * 2 := by
    rw [← hc2]
    simp only [List.size_toArray, List.length_append, List.length_take, List.length_drop, Array.length_toList, hs1, List.length_cons, List.length_nil]
    omega
  have ht2 : cur2.toList.take ((n + 1) * 2) = flH (inH l i x) := by
    have e1 : cur1.toList = cur.toList.take ((i + 1) * 2) ++ (flH (l.drop i) ++ cur.toList.drop ((i + 1) * 2 + (flH (l.drop i)).length)) := by rw [← hc1]; simp only [List.append_assoc]
    have e2 : cur2.toList = cur1.toList.take (i * 2) ++ ([Value.string x.f0, Value.string x.f1] ++ cur1.toList.drop (i * 2 + 2)) := by rw [← hc2]; simp only [List.append_assoc]; rfl
    have e3 : (cur.toList.take ((i + 1) * 2)).length = (i + 1) * 2 := by rw [List.length_take, hcl]; omega
    have e4 : cur1.toList.take (i * 2) = (flH l).take (i * 2) := by
      rw [e1, List.take_append_of_le_length (by rw [e3]; omega), List.take_take, Nat.min_eq_left (by omega), ← ht, List.take_take, Nat.min_eq_left (by omega)]
    have e5 : cur1.toList.drop (i * 2 + 2) = flH (l.drop i) ++ cur.toList.drop ((i + 1) * 2 + (flH (l.drop i)).length) := by
      rw [e1, show i * 2 + 2 = (cur.toList.take ((i + 1) * 2)).length from by rw [e3]; omega, List.drop_left]
    have e6 : cur2.toList = flH (inH l i x) ++ cur.toList.drop ((i + 1) * 2 + (flH (l.drop i)).length) := by
      rw [e2, e4, e5, flH_inH, flH_drop]
      simp only [List.append_assoc]
    rw [e6, show (n + 1) * 2 = (flH (inH l i x)).length from by rw [flH_length, inH_length l i x (by omega), hnl], List.take_left]
  have HS2 := Aside0.mk hs2
  have HT2 := Aside0.mk ht2
  have HH1 := Aside0.mk hh1
  have HW1 := Aside0.mk hW1
  have HM := Aside0.mk hm
  have hz2 : ¬ ((i : Int) = (n : Int)) := by omega
  have hb1 : (0 : Int) ≤ (i : Int) + 1 := by omega
  have hin : i ≤ n := by omega
  have htn : ((i : Int) + 1).toNat = i + 1 := by omega
  have hb2 : ¬ (cap = i + 1) := by omega
  have hb3 : (i : Int) ≤ (n : Int) + 1 := by omega
  have hb4 : ¬ (cap = i) := by omega
  have hroom' : n + 1 ≤ cap := by omega
  have hw3 : IntKind.i64.wrap ((i : Int) + 1) = (i : Int) + 1 := wrap_oneK i (by omega)
  have hw1 : wrap64 ((i : Int) + 1) = (i : Int) + 1 := wrap_one i (by omega)
  have hw2 : wrap64 ((n : Int) + 1) = (n : Int) + 1 := wrap_one n (by omega)
  have mixed : Tryd.prog.follows Departure.mixedOrders = true := by kernel_rfl
  rw [hnl]
  clear hh1 hv1 hs1 hs2 ht2 hc1 hc2 hW1 hrow hh hs hcl ht hm hv hl hn h' hflx
  go_enter Tryd.func46, Tryd.ntmps46
  go_wp2_with (simp only [hov])
  go_region_law_o (refine step_copy_runH rfl _ _ 23 23 rfl _ _ (by simp [Act.eval, Act.put]) (by simp [Act.eval, Act.put]) (hcp1 _ _ _) ?_)
  go_wp2_with (at_builtin; refine wpList_copy_runH _ rfl _ _ 23 23 rfl _ _ rfl rfl (hcp2 _ rfl _ _) ?_)
  go_ret
  exact ⟨_, rfl, ⟨by rw [flH_length, inH_length l i x (by omega), hnl], .inr ⟨g, cap, cur2, rfl, hbg, setRow_heap W1 g cur1 _ _ _ HH1.out, hroom', HM.out, HS2.out, HT2.out⟩⟩, by
    rw [← HW1.out]
    exact ⟨rfl, rfl, rfl, by rw [size_setRow, size_setRow]; exact Nat.le_refl _, fun k _ hne => (setRow_other _ g k _ (by intro e; subst e; exact hne rfl)).trans (setRow_other w.drew g k _ (by intro e; subst e; exact hne rfl))⟩⟩
/-- Both: a header is put in where there is room for it. -/
theorem insert_any (base g cap i : Nat) (l : List S26) (x : S26) (vb : Nat) (w : World) (hrow : w.ownsRow base 26 2 (.slice (some ⟨g, 0, none⟩) l.length cap) l.length (flH l))
    (hi : i ≤ l.length) (hroom : l.length + 1 ≤ cap) (hv : w.heap[vb]? = some (.cells #[.string x.f0, .string x.f1] 26 (0, 0))) (hvg : vb ≠ g) (hl : l.length ≤ 1000000) (hb : base ≤ w.heap.size) :
    Calls Tryd.prog 46 #[.slice (some ⟨g, 0, none⟩) l.length cap, .int .i64 (i : Int), .slice (some ⟨vb, 0, none⟩) 1 1] w fun e w' =>
      ∃ v', e = .returned v' ∧ w'.ownsRow base 26 2 v' (l.length + 1) (flH (inH l i x)) ∧ w.grownBy w' (some g) := by
  rcases Nat.lt_or_ge i l.length with h | h
  · exact (insert_shift base g cap i l x vb w hrow h hroom hv hvg hl).mono fun e w' ⟨v', he, ho, hg⟩ => ⟨v', he, ho, hg⟩
  · obtain rfl : i = l.length := by omega
    exact insert_end base g cap l x vb w hrow hv hl hb
end Go.Proofs.YthjhbhgfckaklabDoor.P
end
section
namespace Go.Proofs.YthjhbhgfckaklabDoor.P
open Go.RowKit Go.Shelf Go.Proofs.YthjhbhgfckaklabDoorW.PrintWords Go.Proofs.YthjhbhgfckaklabDoorW.PrintLast Go.Proofs.YthjhbhgfckaklabDoorW.PrintMore
set_option linter.unusedVariables false
set_option linter.unusedSimpArgs false
attribute [local go_sem] Oper.semAt_some
/-- Where a name's first header stands, and how many are left without the name's. -/
theorem first_drop (nm : ByteArray) : ∀ (l : List S26) (i : Nat) (x : Nat × S26) (xs : List (Nat × S26)) (d : List S26), ofList nm l i = some (x :: xs) → dropM nm l = some d → i ≤ x.1 ∧ x.1 ≤ i + d.length ∧ d.length < l.length
  | [], i, x, xs, d, h, _ => by cases Option.some.inj h
  | y :: l, i, x, xs, d, h, h' => by
    unfold ofList at h
    unfold dropM at h'
    obtain ⟨b, hb, h⟩ := Option.bind_eq_some_iff.mp h
    obtain ⟨r, hr, h⟩ := Option.bind_eq_some_iff.mp h
    rw [hb, Option.bind_some] at h'
    obtain ⟨q, hq, h'⟩ := Option.bind_eq_some_iff.mp h'
    have hl := dropM_length nm l q hq
    cases b with
    | true =>
      rw [if_pos rfl] at h h'
      have h := Option.some.inj h
      have h' := Option.some.inj h'
      injection h with h1 h2
      subst h1 h'
      exact ⟨Nat.le_refl _, by show i ≤ i + _; omega, by rw [List.length_cons]; omega⟩
    | false =>
      rw [if_neg (by decide)] at h h'
      have h := Option.some.inj h
      have h' := Option.some.inj h'
      subst h h'
      have ih := first_drop nm l (i + 1) x xs q hr hq
      rw [List.length_cons, List.length_cons]
      omega
theorem grown_setCell (W : World) (b j : Nat) (v : Value) : W.grownBy (W.setCell ⟨b, j, none⟩ v) (some b) := ⟨rfl, rfl, rfl, (KeepsWalks.setCell W _ v).size, fun k _ hk => Below.heap_setCell _ _ _ k (fun e => hk (by rw [e]))⟩
theorem two_cells {W : World} {vb : Nat} {a b : Value} {t : TypeId} (h : W.heap[vb]? = some (.cells #[a, b] t (0, 0))) : ∀ j u, ([a, b] : List Value)[j]? = some u → W.cell? ((⟨vb, 0, none⟩ : Addr).add j) = some u := fun j u hj => by
  rw [add_plain]
  match j, hj with
  | 0, hj => cases hj; simp [World.cell?, h]
  | 1, hj => cases hj; simp [World.cell?, h]
theorem two_one {a b : ByteArray} : ∀ u ∈ ([.string a, .string b] : List Value), u.oneCell' = true := fun u hu => by
  rcases List.mem_cons.1 hu with rfl | hu
  · rfl
  · rcases List.mem_cons.1 hu with rfl | hu
    · rfl
    · cases hu
theorem results_one {fn : Func} {p : Tmp} (h : fn.results = #[.cell p 23]) (tmps : Array Value) (w : World) (g1 : Nat) {A : Option Addr} {n c : Nat} (hp : tmps.getD p undef = .pointer (some ⟨g1, 0, none⟩)) (h1 : Boxed w g1 23 (.slice A n c)) :
    (results fn tmps).run Tryd.prog w = .ok (.slice A n c) w := by
  have hp' : tmps[p]?.getD undef = .pointer (some ⟨g1, 0, none⟩) := by simpa using hp
  have c1 := h1.cell
  simp [results, h, hp', asAddr, loadVar, c1, go_sem]
/-- How a round that is the last one is left: by 'return', Ix paid. -/
def onceQ (B : Nat) (Ix : World → Prop) (W : World) : Exit → Act → World → Prop
  | .ret, _, W' => KeepsFrom B W W' ∧ Ix W'
  | _, _, _ => False
/-- A range over a function whose body always returns: the iterator tells one element, the same in all runs, or none (E). -/
theorem range_once {F : Fence} {n : Nat} {P : Program} {g : Operand} {ps : Array Tmp} {assign body : Code} {Q : Exit → Act → World → Prop} {a : Act} {w : World}
    (hro : F.round = none) (h1 : 1 ≤ n) {gf : Nat} {lb : Array Value} (hg : a.eval g = .func (.func gf) #[] lb) (hFg : F.fn gf) (eg : ∀ args w, (callFunc gf args).run P w = .ok (.enter gf args) w)
    {enc : Array Value} (hps : enc.size = ps.size) (E : Prop) (I Ix : World → Prop) (hI : OwnFrom w.heap.size fun (_ : Unit) W => I W) (hIx : OwnFrom w.heap.size fun (_ : Unit) W => Ix W) (h0 : I w)
    (hit : ∀ (l : Nat) (J Jx : World → Prop) (W : World), Below w.heap.size w W → AbidesFrom W.heap.size (fun (_ : Unit) W => J W) → AbidesFrom W.heap.size (fun (_ : Unit) W => Jx W) →
      (¬ E → ∀ W1, J W1 → YieldAt F (n - 1 - 1) P l enc W1 fun e W' => e = .returned (.bool false) ∧ Jx W') → J W →
      CallsIn F (n - 1) P gf (#[.func (.yield l) #[] #[]] ++ lb) W fun e W' => (∃ v, e = .returned v) ∧ (E ∧ J W' ∨ ¬ E ∧ Jx W'))
    (hround : ¬ E → ∀ (l : Nat) (W : World), w.heap.size < l → (∃ r, W.heap[l]? = some (.loop r)) → I W → assign.wpIn (F.inRound l) (n - 1 - 1) P (Exit.then (fun a1 W1 => KeepsFrom w.heap.size W W1 ∧
      ∀ r, body.wpIn (F.inRound l) (n - 1 - 1) P (onceQ w.heap.size Ix (W1.putObj l (.loop r))) a1 (W1.putObj l (.loop r))) (fun _ _ _ => False)) { tmps := (ps.zip enc).foldl (fun t (p, v) => t.setIfInBounds p v) a.tmps, defers := [] } W)
    (hdone : ∀ (D : Nat) (W : World), w.heap.size ≤ D → E → I W → W.heap[D]? = some (.deferred (some [])) → Q .normal { a with defers := { target := .collected D, args := #[] } :: a.defers } W)
    (hstop : ∀ (D : Nat) (W : World), w.heap.size ≤ D → ¬ E → Ix W → W.heap[D]? = some (.deferred (some [])) → Code.ret.wpIn F n P Q { a with defers := { target := .collected D, args := #[] } :: a.defers } W) :
    (Code.rangeFunc g ps assign body).wpIn F n P Q a w := by
  refine wpIn_rangeFunc ?_
  intro fn hfn
  rw [hro]
  let rec_ : LoopState → Option Code → Loop := fun st pe => { state := st, pending := pe, fn, tmps := a.tmps, params := ps, assign, body, defers := w.heap.size }
  obtain ⟨W1, hW1⟩ : ∃ W1, (w.alloc (.deferred (some []))).alloc (.loop (rec_ .ready none)) = W1 := ⟨_, rfl⟩
  have hsz : W1.heap.size = w.heap.size + 2 := by rw [← hW1]; simp
  have hL1 : W1.heap[w.heap.size + 1]? = some (.loop (rec_ .ready none)) := by
    have := World.alloc_heap_new (w.alloc (.deferred (some []))) (.loop (rec_ .ready none))
    rwa [World.size_alloc, hW1] at this
  have hD1 : W1.heap[w.heap.size]? = some (.deferred (some [])) := by
    rw [← hW1]; exact (Below.heap_alloc _ _ _ (by simp)).trans (World.alloc_heap_new w _)
  have hb1 : Below w.heap.size w W1 := by rw [← hW1]; exact ((Below.refl _ w).alloc (Nat.le_refl _) _).alloc (by simp) _
  have hturn : ∀ {p : World → Prop}, OwnFrom w.heap.size (fun (_ : Unit) W => p W) → ∀ (st : LoopState) (pe : Option Code), AbidesFrom W1.heap.size (fun (_ : Unit) W => p W ∧ W.heap[w.heap.size + 1]? = some (.loop (rec_ st pe)) ∧ W.heap[w.heap.size]? = some (.deferred (some []))) :=
    fun hp st pe _ A B row hs hg hr => by
      have hr' : ∀ r, row = some r → w.heap.size + 2 ≤ r ∧ ∃ o : Obj, A.heap[r]? = some o ∧ o.isCells = false := fun r e => by
        obtain ⟨h1, o, h2, h3⟩ := hr r e
        exact ⟨by omega, o, h2, Obj.not_cells_of_walk h3⟩
      have hk : ∀ (k : Nat) (o : Obj), k < w.heap.size + 2 → A.heap[k]? = some o → B.heap[k]? = some o := fun k o hk ho =>
        (hg.block k (Array.getElem?_eq_some_iff.1 ho).1 (fun e => by have := (hr' k e.symm).1; omega)).trans ho
      exact ⟨hp () A B row hs.1 hg (fun r e => ⟨by have := (hr' r e).1; omega, (hr' r e).2⟩), hk _ _ (by omega) hs.2.1, hk _ _ (by omega) hs.2.2⟩
  refine ⟨w.heap.size + 1, [{ target := .collected w.heap.size, args := #[] }], W1, { target := .fn (.func gf) lb, args := #[.func (.yield (w.heap.size + 1)) #[] #[]] }, W1, gf,
    #[.func (.yield (w.heap.size + 1)) #[] #[]] ++ lb, W1, ?_, ?_, ?_, ?_, fun _ => h1, ?_⟩
  · rw [← hW1]; exact run_enterLoop_outer _ _ _ _ _
  · simp only [resolve, hg]
    simp [go_sem]
  · intro f' hf'; simp [Target.leads] at hf'; subst hf'; exact hFg
  · simp [invoke, go_sem, eg]
  · refine (hit (w.heap.size + 1) (fun W => I W ∧ W.heap[w.heap.size + 1]? = some (.loop (rec_ .ready none)) ∧ W.heap[w.heap.size]? = some (.deferred (some [])))
      (fun W => Ix W ∧ W.heap[w.heap.size + 1]? = some (.loop (rec_ .done (some .ret))) ∧ W.heap[w.heap.size]? = some (.deferred (some [])))
      W1 hb1 (hturn hI _ _) (hturn hIx _ _) ?_ ⟨by rw [← hW1]; exact hI.alloc (s := ()) _ (hI.alloc (s := ()) _ h0), hL1, hD1⟩).mono ?_
    · rintro hE W ⟨hi, hl, hd⟩
      refine ⟨fn, _, assign, body, run_yield (P := P) (args := enc) hl hps, roundIn_of_wpIn hfn (wpIn_mono (hround hE (w.heap.size + 1) W (by omega) ⟨_, hl⟩ hi) ?_)⟩
      rintro e a2 W2 he
      cases e with
      | normal =>
        obtain ⟨hk2, hb⟩ := he
        have hl2 := hk2.same _ _ (by omega) hl rfl
        have hd2 := hk2.same _ _ (Nat.le_refl _) hd rfl
        refine ⟨_, run_beginRound hl2 rfl, wpIn_mono (hb _) ?_⟩
        have hl3 : (W2.putObj (w.heap.size + 1) (.loop (rec_ .busy none))).heap[w.heap.size + 1]? = some (.loop (rec_ .busy none)) := World.putObj_heap_same (Array.getElem?_eq_some_iff.1 hl2).1
        have hd3 : (W2.putObj (w.heap.size + 1) (.loop (rec_ .busy none))).heap[w.heap.size]? = some (.deferred (some [])) := (World.putObj_heap_other (by omega)).trans hd2
        rintro e a3 W3 hp
        cases e with
        | ret =>
          obtain ⟨hk3, hi3⟩ := hp
          have hl4 := hk3.same _ _ (by omega) hl3 rfl
          exact ⟨_, _, run_endRound (P := P) (some .ret) hl4, rfl, hIx.putObj (s := ()) _ hi3 (by omega) hl4 rfl, World.putObj_heap_same (Array.getElem?_eq_some_iff.1 hl4).1, (World.putObj_heap_other (by omega)).trans (hk3.same _ _ (Nat.le_refl _) hd3 rfl)⟩
        | _ => exact hp.elim
      | _ => exact he.elim
    · rintro e W2 ⟨⟨v, rfl⟩, (⟨hE, hi, hl, hd⟩ | ⟨hE, hi, hl, hd⟩)⟩
      · exact ⟨none, _, run_endLoop (P := P) hl (by simp [rec_]), hdone _ _ (Nat.le_refl _) hE (hI.putObj (s := ()) _ hi (by omega) hl rfl) ((World.putObj_heap_other (by omega)).trans hd)⟩
      · exact ⟨some .ret, _, run_endLoop (P := P) hl (by simp [rec_]), hstop _ _ (Nat.le_refl _) hE (hIx.putObj (s := ()) _ hi (by omega) hl rfl) ((World.putObj_heap_other (by omega)).trans hd)⟩
/-- head.of's iterator under a loop that takes one header at most. -/
theorem of_once (n : Nat) (hn : 1 ≤ n) (Bl Bn : Nat) (w0 : World) (A0 : Option Addr) (c0 : Nat) (l0 : List S26) (nm : ByteArray) (xs : List (Nat × S26)) (x0 : Nat × S26) (hx0 : ∀ x ys, xs = x :: ys → x = x0) (hr0 : Kd.C k26 w0 A0 l0.length l0) (hxs : ofList nm l0 0 = some xs)
    (W0 : World) (hW0 : Below w0.heap.size w0 W0) (hBl : Boxed W0 Bl 23 (.slice A0 l0.length c0)) (hBn : Boxed W0 Bn 9 (.string nm)) (l : Nat) (J Jx : World → Prop) (W : World) (hW : Below W0.heap.size W0 W)
    (hJ : AbidesFrom W.heap.size (fun (_ : Unit) W => J W)) (hY : ¬ (xs = []) → ∀ W1, J W1 → YieldAt Fence.wide (n - 1) Tryd.prog l (encH x0) W1 fun e W' => e = .returned (.bool false) ∧ Jx W') (h0 : J W) :
    CallsIn Fence.wide n Tryd.prog 69 (#[.func (.yield l) #[] #[]] ++ #[.pointer (some ⟨Bl, 0, none⟩), .pointer (some ⟨Bn, 0, none⟩)]) W fun e W' => (∃ v, e = .returned v) ∧ (xs = [] ∧ J W' ∨ ¬ (xs = []) ∧ Jx W') :=
  (of1_in n hn l Bl Bn w0 A0 c0 l0 nm xs (fun pre W => pre = [] ∧ J W) (fun pre W => pre ≠ [] ∧ Jx W) hr0 hxs
    (fun pre x W hj hp => by
      obtain ⟨rfl, hj⟩ := hj
      obtain ⟨ys, hp⟩ := hp
      obtain rfl := hx0 x ys hp.symm
      obtain ⟨fn, tmps, assign, body, hy, hR⟩ := hY (by rw [← hp]; simp) W hj
      exact ⟨fn, tmps, assign, body, hy, hR.mono fun e W' h => .inr ⟨h.1, by simp, h.2⟩⟩)
    W (fun s A B row hs hg hr => ⟨hs.1, hJ () A B row hs.2 hg hr⟩) (hW0.trans (hW.mono hW0.size)) ((hW.cell (p := ⟨Bl, 0, none⟩) hBl.lt).trans hBl.cell) ((hW.block Bn hBn.lt).trans hBn) ⟨rfl, h0⟩).mono fun e W' h => ⟨h.1, by
      rcases h.2 with ⟨ys, hy, hn, hj⟩ | ⟨pre, hp, hne, hj⟩
      · exact .inl ⟨hy.symm.trans hn, hj⟩
      · exact .inr ⟨fun e => hne (by subst e; simpa using hp), hj⟩⟩
def setL (d : List S26) (a1 a2 : ByteArray) : List (Nat × S26) → List S26
  | [] => d ++ [⟨a1, a2⟩]
  | x :: _ => inH d x.1 ⟨x.2.f0, a2⟩
-- EXT abatis/head.Set {"rounds": 0, "making": 1}
def head_Set.f (l0 : List S26) (a1 a2 : ByteArray) : Option (List S26) := (head_Drop.f l0 a1).bind fun d => (ofList a1 l0 0).bind fun xs => some (setL d a1 a2 xs)
set_option maxRecDepth 100000 in
set_option maxHeartbeats 4000000 in
theorem head_Set.calls (A0 : Option Addr) (c0 : Nat) (l0 : List S26) (a1 a2 : ByteArray) (r : List S26) (w : World) (hr0 : Kd.C k26 w A0 l0.length l0) (hc0 : l0.length ≤ c0) (h : head_Set.f l0 a1 a2 = some r) :
    Calls Tryd.prog 19 #[.slice A0 l0.length c0, .string a1, .string a2] w fun e w' => ∃ v0_ : Value, e = .returned v0_ ∧ Kd.R k26 26 w' w.heap.size (fun _ => True) v0_ r ∧ Below w.heap.size w w' := by
  unfold head_Set.f at h
  obtain ⟨d, hd, h⟩ := Option.bind_eq_some_iff.mp h
  obtain ⟨xs, hxs, h⟩ := Option.bind_eq_some_iff.mp h
  have hdm : dropM a1 l0 = some d ∧ l0.length ≤ 1000000 := by
    unfold head_Drop.f at hd
    split at hd
    case isFalse => exact absurd hd (by simp)
    rename_i hl
    exact ⟨hd, hl⟩
  have HD := Aside0.mk hd
  have HDM := Aside0.mk hdm
  have HXS := Aside0.mk hxs
  have HR := Aside0.mk (Option.some.inj h)
  have HR0 := Aside0.mk hr0
  clear h hd hxs hr0 hc0 hdm
  refine (callsIn_wide (n := 9)).1 ?_
  refine callsIn_of_wp_marks Tryd.func19 rfl trivial ?_ rfl
  simp only [Tryd.ntmps19, List.size_toArray, List.length_cons, List.length_nil, Nat.reduceAdd, Nat.reduceSub, Array.replicate_succ, Array.replicate_zero, List.push_toArray, List.append_toArray, List.nil_append, List.cons_append]
  gi_wp2_with (first
    | (refine ⟨trivial, ?_⟩; gi_at_call 20; refine (callsIn_wide.2 (drop_own A0 c0 l0 a1 d _ (Kd.C_below HR0.out (((Below.refl _ w).alloc (Nat.le_refl _) _).alloc (by simp) _)) HD.out)).mono ?_; rintro e w1 ⟨v, rfl, hown, hcap, hB1⟩; obtain ⟨A1, c1, rfl⟩ := own_slice hown)
    | (refine ⟨trivial, ?_⟩; gi_at_call 45; refine (of_in _ _ _ _ _ _).mono ?_; rintro e w' ⟨rfl, rfl⟩))
  have hsa : ((w.alloc (.cells #[.string a2] 9)).alloc (.cells #[.slice none 0 0] 23)).heap.size = w.heap.size + 2 := by simp
  rw [hsa] at hown
  have hsz1 : w.heap.size + 2 ≤ w1.heap.size := by have := hB1.size; omega
  have bV := ((Boxed.new w 9 (.string a2)).alloc (.cells #[.slice none 0 0] 23)).kept (grown_of_below none hB1) (by simp)
  have bR := (Boxed.new (w.alloc (.cells #[.string a2] 9)) 23 (.slice none 0 0)).kept (grown_of_below none hB1) (by simp)
  replace bV := ((bV.alloc (.cells #[.slice A1 d.length c1] 23)).alloc (.cells #[.slice A0 l0.length c0] 23)).alloc (.cells #[.string a1] 9)
  replace bR := ((bR.alloc (.cells #[.slice A1 d.length c1] 23)).alloc (.cells #[.slice A0 l0.length c0] 23)).alloc (.cells #[.string a1] 9)
  have bO := ((Boxed.new w1 23 (.slice A1 d.length c1)).alloc (.cells #[.slice A0 l0.length c0] 23)).alloc (.cells #[.string a1] 9)
  have bL := (Boxed.new (w1.alloc (.cells #[.slice A1 d.length c1] 23)) 23 (.slice A0 l0.length c0)).alloc (.cells #[.string a1] 9)
  have bN := Boxed.new ((w1.alloc (.cells #[.slice A1 d.length c1] 23)).alloc (.cells #[.slice A0 l0.length c0] 23)) 9 (.string a1)
  have hrow := ((hown.alloc (.cells #[.slice A1 d.length c1] 23)).alloc (.cells #[.slice A0 l0.length c0] 23)).alloc (.cells #[.string a1] 9)
  simp only [World.size_alloc] at bV bR bO bL bN
  have hBw : Below w.heap.size w w1 := (((Below.refl _ w).alloc (Nat.le_refl _) _).alloc (by simp) _).trans (hB1.mono (by simp; omega))
  have hB0 : Below w.heap.size w (((w1.alloc (.cells #[.slice A1 d.length c1] 23)).alloc (.cells #[.slice A0 l0.length c0] 23)).alloc (.cells #[.string a1] 9)) := ((hBw.alloc (by omega) _).alloc (by simp; omega) _).alloc (by simp; omega) _
  have hsz : (((w1.alloc (.cells #[.slice A1 d.length c1] 23)).alloc (.cells #[.slice A0 l0.length c0] 23)).alloc (.cells #[.string a1] 9)).heap.size = w1.heap.size + 3 := by simp
  have HG : Aside0 (∀ g, A1 = some ⟨g, 0, none⟩ → g < w1.heap.size) := ⟨fun g e => own_lt hown g (by rw [e]; rfl)⟩
  have HCAP := Aside0.mk hcap
  have HDL : Aside0 (d.length ≤ 1000000) := ⟨Nat.le_trans (dropM_length a1 l0 d HDM.out.1) HDM.out.2⟩
  obtain ⟨W0, hW0⟩ : ∃ W0, ((w1.alloc (.cells #[.slice A1 d.length c1] 23)).alloc (.cells #[.slice A0 l0.length c0] 23)).alloc (.cells #[.string a1] 9) = W0 := ⟨_, rfl⟩
  rw [hW0] at bV bR bO bL bN hrow hB0 hsz ⊢
  clear hW0 hB1 hown hcap hsa
  refine range_once rfl (by omega) (gf := 69) (lb := #[.pointer (some ⟨w1.heap.size + 1, 0, none⟩), .pointer (some ⟨w1.heap.size + 1 + 1, 0, none⟩)]) rfl trivial (enters_of Tryd.func69 (by kernel_rfl) rfl)
    (enc := encH (xs.headD (0, z26))) rfl (xs = [])
    (fun W => Boxed W w.heap.size 9 (.string a2) ∧ (Boxed W (w.heap.size + 1) 23 (.slice none 0 0) ∧ ((∃ v, Boxed W w1.heap.size 23 v ∧ W.ownsRow (w.heap.size + 2) 26 2 v d.length (flH d) ∧ v = .slice A1 d.length c1) ∧ Below w.heap.size w W)))
    (fun W => (∃ v, Boxed W (w.heap.size + 1) 23 v ∧ W.ownsRow (w.heap.size + 2) 26 2 v r.length (flH r) ∧ True) ∧ Below w.heap.size w W)
    (OwnFrom.and (Own.from (boxed_own _ _ _) _) (OwnFrom.and (Own.from (boxed_own _ _ _) _) (OwnFrom.and (Own.from (holdsRow_own (w.heap.size + 2) w1.heap.size 23 26 2 (fun _ => d.length) (fun _ => flH d) (fun _ v => v = .slice A1 d.length c1)) _) (ownFrom_below (Nat.le_refl _) (by omega)))))
    (OwnFrom.and (Own.from (holdsRow_own (w.heap.size + 2) (w.heap.size + 1) 23 26 2 (fun _ => r.length) (fun _ => flH r) (fun _ _ => True)) _) (ownFrom_below (Nat.le_refl _) (by omega)))
    ⟨bV, bR, ⟨_, bO, hrow, rfl⟩, hB0⟩
    (fun l J Jx W hW hJ _ hY h0 => of_once _ (by omega) (w1.heap.size + 1) (w1.heap.size + 1 + 1) w A0 c0 l0 a1 xs _ (fun x ys e => by rw [e]; rfl) HR0.out HXS.out W0 hB0 bL bN l J Jx W hW hJ hY h0)
    ?round ?done ?stop
  case round =>
    rintro hE l W hl ⟨rl, hrl⟩ ⟨bV, bR, ⟨v, bO, hrow, rfl⟩, hB⟩
    obtain ⟨x, ys, rfl⟩ := List.exists_cons_of_ne_nil hE
    obtain ⟨-, hx1, hx2⟩ := first_drop a1 l0 0 x ys d HXS.out HDM.out.1
    rw [Nat.zero_add] at hx1
    obtain ⟨g, cap, hv1, hv2⟩ := HCAP.out (by omega)
    obtain ⟨rfl, -, rfl⟩ := Value.slice.inj hv1
    have HHG := Aside0.mk (HG.out g rfl)
    have HX1 := Aside0.mk hx1
    have HX2 := Aside0.mk hx2
    have HV2 := Aside0.mk hv2
    have HRR : Aside0 (inH d x.1 ⟨x.2.f0, a2⟩ = r) := HR
    have hlt := bO.lt
    clear hv1 hv2 hx1 hx2 hE
    show Code.wpIn _ _ _ _ _ _ _
    dsimp only [encH, List.headD]
    gi_wp2
    refine ⟨(KeepsOthers.alloc _ _).from _, fun ro => ?_⟩
    have hnl : W.heap.size ≠ l := fun e => by rw [← e] at hrl; simp at hrl
    have hll : l < W.heap.size := (Array.getElem?_eq_some_iff.1 hrl).1
    have bX : ((W.alloc (.cells #[.string x.2.f0, .string x.2.f1] 26)).putObj l (.loop ro)).heap[W.heap.size]? = some (.cells #[.string x.2.f0, .string x.2.f1] 26 (0, 0)) := (World.putObj_heap_other hnl).trans (World.alloc_heap_new W _)
    have hg1 : (W.alloc (.cells #[.string x.2.f0, .string x.2.f1] 26)).grownBy ((W.alloc (.cells #[.string x.2.f0, .string x.2.f1] 26)).putObj l (.loop ro)) (some l) := grownBy_putObj' _ l _
    replace bV := (bV.alloc (.cells #[.string x.2.f0, .string x.2.f1] 26)).kept hg1 (by intro e; cases e; omega)
    replace bR := (bR.alloc (.cells #[.string x.2.f0, .string x.2.f1] 26)).kept hg1 (by intro e; cases e; omega)
    replace bO := (bO.alloc (.cells #[.string x.2.f0, .string x.2.f1] 26)).kept hg1 (by intro e; cases e; omega)
    replace hrow := (hrow.alloc (.cells #[.string x.2.f0, .string x.2.f1] 26)).kept hg1 (.inr (by intro e; have e2 : g = l := Option.some.inj e; have := HHG.out; omega))
    replace hB : Below w.heap.size w ((W.alloc (.cells #[.string x.2.f0, .string x.2.f1] 26)).putObj l (.loop ro)) := (hB.alloc hB.size _).grown hg1 (by simp; have := hB.size; omega) (by intro k e; cases e; omega)
    have hs2 : ((W.alloc (.cells #[.string x.2.f0, .string x.2.f1] 26)).putObj l (.loop ro)).heap.size = W.heap.size + 1 := by simp
    obtain ⟨W2, hW2⟩ : ∃ W2, (W.alloc (.cells #[.string x.2.f0, .string x.2.f1] 26)).putObj l (.loop ro) = W2 := ⟨_, rfl⟩
    rw [hW2] at bX bV bR bO hrow hB hs2 ⊢
    clear hg1 hW2 hrl
    have hcv := bV.cell
    have hco := bO.cell
    have hx0 : W2.cell? ⟨W.heap.size, 0, none⟩ = some (.string x.2.f0) := by simp [World.cell?, bX]
    have hx1 : W2.cell? ⟨W.heap.size, 1, none⟩ = some (.string x.2.f1) := by simp [World.cell?, bX]
    have hfx : W2.frozen? ⟨W.heap.size, 1, none⟩ = false := blk_frozen bX 1
    have hX' := blk_set bX 1 (.string a2)
    have hne : W.heap.size ≠ w1.heap.size := by omega
    have bO3 := bO.kept (grown_setCell W2 W.heap.size 1 (.string a2)) (by intro e; exact hne (Option.some.inj e).symm)
    have hs3 : ((W2.setCell ⟨W.heap.size, 1, none⟩ (.string a2)).alloc (.cells #[.string x.2.f0, .string a2] 26)).heap.size = W.heap.size + 1 + 1 := by rw [World.size_alloc, World.size_setCell, hs2]
    have hv3 : ((W2.setCell ⟨W.heap.size, 1, none⟩ (.string a2)).alloc (.cells #[.string x.2.f0, .string a2] 26)).heap[W.heap.size + 1]? = some (.cells #[.string x.2.f0, .string a2] 26 (0, 0)) := by
      have := World.alloc_heap_new (W2.setCell ⟨W.heap.size, 1, none⟩ (.string a2)) (.cells #[.string x.2.f0, .string a2] 26)
      rwa [World.size_setCell, hs2] at this
    have hgb := own_base hrow g rfl
    have hr3 := (own_setCell hrow (p := ⟨W.heap.size, 1, none⟩) (by intro e; have e2 : W.heap.size = g := Option.some.inj e; have := HHG.out; omega) (.string a2)).alloc (.cells #[.string x.2.f0, .string a2] 26)
    have bR3 := (bR.kept (grown_setCell W2 W.heap.size 1 (.string a2)) (by intro e; have e2 := Option.some.inj e; omega)).alloc (.cells #[.string x.2.f0, .string a2] 26)
    have hB3 : Below w.heap.size w ((W2.setCell ⟨W.heap.size, 1, none⟩ (.string a2)).alloc (.cells #[.string x.2.f0, .string a2] 26)) := (below_set hB (by have := hB.size; omega)).alloc (by rw [World.size_setCell]; exact hB.size) _
    have HV3 := Aside0.mk hv3
    have HR3 := Aside0.mk hr3
    have HB3 := Aside0.mk hB3
    have BR3 := Aside0.mk bR3
    clear hv3 hr3 hB3 bR3 hB
    gi_wp2_with (refine ⟨trivial, ?_⟩; gi_at_call 46; refine (callsIn_wide.2 (insert_any (w.heap.size + 2) g c1 x.1 d ⟨x.2.f0, a2⟩ (W.heap.size + 1) _ HR3.out HX1.out (by have := HX2.out; have := HV2.out; omega) HV3.out (by have := HHG.out; omega) HDL.out (by rw [hs3]; omega))).mono ?_; rintro e w4 ⟨v', rfl, hown4, hg4⟩; obtain ⟨A4, c4, rfl⟩ := own_slice hown4; have bR4 := BR3.out.kept hg4 (by intro e; have e2 := Option.some.inj e; omega); have hcr := bR4.cell; have hfr := bR4.frozen)
    refine ⟨?_, ?_, ?_⟩
    · refine (((KeepsOthers.setCell _ _ _).trans (KeepsOthers.alloc _ _)).from _).trans ((KeepsFrom.of_grownBy hg4 (fun j e => ?_)).trans ((KeepsOthers.setCell _ _ _).from _))
      have e2 : g = j := Option.some.inj e
      have := HHG.out
      omega
    · refine ⟨_, bR4.set _, ?_, trivial⟩
      rw [← HRR.out, inH_length d x.1 _ HX1.out]
      exact own_setCell hown4 (p := ⟨w.heap.size + 1, 0, none⟩) (bR4.not_row (by decide) hown4) _
    · exact below_cell (HB3.out.grown hg4 HB3.out.size (fun k e => by have e2 : g = k := Option.some.inj e; omega)) (by omega)
  case done =>
    rintro D W hD rfl ⟨bV, bR, ⟨v, bO, hrow, rfl⟩, hB⟩ hK
    have hcv := bV.cell
    have hco := bO.cell
    have hDl : D < W.heap.size := (Array.getElem?_eq_some_iff.1 hK).1
    have HRR : Aside0 (d ++ [⟨a1, a2⟩] = r) := HR
    obtain ⟨i0, hi, hz0, hz1, hz2⟩ := info_parts info_H
    have hsW : W.heap.size + 1 = (W.alloc (.cells #[.string a1, .string a2] 26)).heap.size := by simp
    have hnw : (W.alloc (.cells #[.string a1, .string a2] 26)).heap[W.heap.size]? = some (.cells #[.string a1, .string a2] 26 (0, 0)) := World.alloc_heap_new W _
    have HNW := Aside0.mk hnw
    clear hnw
    gi_wp2_with (gi_at_builtin; refine wpListIn_append_own _ rfl _ _ 23 rfl (w.heap.size + 2) 26 i0 (.agg #[.string ⟨#[]⟩, .string ⟨#[]⟩]) 2 32 Tryd.underlying23 hi hz0 hz1 hz2 rfl (by decide) _ _ _ rfl (hrow.alloc _) ⟨W.heap.size, 0, none⟩ 1 1 [.string a1, .string a2] rfl rfl (two_cells HNW.out) two_one (by have := HDL.out; simp only [maxLen]; omega) (by have := HDL.out; omega) (by rw [← hsW]; have := hB.size; omega) ?_; intro v' w5 hown5 hg5 _; obtain ⟨A5, c5, rfl⟩ := own_slice hown5; have bR5 := (bR.alloc (.cells #[.string a1, .string a2] 26)).kept hg5 ((bR.alloc (.cells #[.string a1, .string a2] 26)).not_row (by decide) (hrow.alloc _)); have hcr := bR5.cell; have hfr := bR5.frozen)
    have hD0 : W0.heap.size ≤ W.heap.size := by omega
    have hgA : ∀ k, (Value.slice A1 d.length c1).ownBlock = some k → w.heap.size + 2 ≤ k ∧ k < w1.heap.size := fun k e => ⟨own_base hrow k e, by
      cases A1 with
      | none => cases e
      | some ad =>
        rcases hrow.2 with ⟨h1, _⟩ | ⟨g, cap, cur, h1, _⟩
        · cases h1
        · obtain ⟨h2, -, -⟩ := Value.slice.inj h1
          have e2 : ad.block = k := Option.some.inj e
          have h3 := Option.some.inj h2
          subst h3
          have := HG.out g rfl
          simp only at e2
          omega⟩
    have hK5 : (w5.setCell ⟨w.heap.size + 1, 0, none⟩ (.slice A5 (d.length + 1) c5)).heap[D]? = some (.deferred (some [])) :=
      (Below.heap_setCell _ _ _ D (by show D ≠ w.heap.size + 1; omega)).trans ((hg5.block D (by rw [World.size_alloc]; omega) (fun e => by have := (hgA D e.symm).2; omega)).trans ((Below.heap_alloc W _ D hDl).trans hK))
    have hB5 : Below w.heap.size w (w5.setCell ⟨w.heap.size + 1, 0, none⟩ (.slice A5 (d.length + 1) c5)) :=
      below_cell ((hB.alloc hB.size _).grown hg5 (by rw [World.size_alloc]; have := hB.size; omega) (fun k e => by have := (hgA k e).1; omega)) (by omega)
    have hr5 := own_setCell hown5 (p := ⟨w.heap.size + 1, 0, none⟩) (bR5.not_row (by decide) hown5) (.slice A5 (d.length + 1) c5)
    refine ⟨by simp, .inl ⟨_, _, rfl, run_takeDeferred hK5, ?_⟩⟩
    refine ⟨_, results_one rfl _ _ _ (by rfl) (box_put (bR5.set _) hK5), _, rfl, ?_, hB5.trans (belowK_b (w := w) (Nat.le_refl _) _ D _ _ (by omega) hK5 rfl rfl)⟩
    have e5 : flH d ++ [Value.string a1, Value.string a2] = flH r := by rw [← HRR.out, flH_append]; rfl
    have e6 : d.length + 1 = r.length := by rw [← HRR.out, List.length_append]; rfl
    rw [e5, e6] at hr5
    rw [e6]
    exact R_flH (own_weaken (ownsRow_putObj hr5 _ (by rw [← e6]; exact hK5) rfl) (by omega))
  case stop =>
    rintro D W hD hE ⟨⟨v, bR, hrow, _⟩, hB⟩ hK
    obtain ⟨A5, c5, rfl⟩ := own_slice hrow
    gi_wp2
    refine ⟨by simp, .inl ⟨_, _, rfl, run_takeDeferred hK, ?_⟩⟩
    exact ⟨_, results_one rfl _ _ _ (by rfl) (box_put bR hK), _, rfl, R_flH (own_weaken (ownsRow_putObj hrow _ hK rfl) (by omega)), hB.trans (belowK_b (w := w) (Nat.le_refl _) _ D _ _ (by omega) hK rfl rfl)⟩
end Go.Proofs.YthjhbhgfckaklabDoor.P
end
