/-
  head.of's iterator, and head.All: the values of a name's headers.
-/
import Derived.RangeFuncNested
import Derived.RangeFuncBound
import Derived.RangeFuncCalls
import Derived.RangeFuncLeaves
import Derived.Shelf.Abstract
import Derived.WalkKit
import Derived.OwnWalkIn
import Derived.TacticsInMore
import Derived.LoopNIn
import Derived.LoopIn
import Derived.Maps.AppendAt
import Derived.Test.YthdognlkacjkhaaGreatDoorBase
import Derived.Test.YthdognlkacjkhaaGreatDoorPL11
namespace Go.Proofs.YthdognlkacjkhaaGreatDoor.P
open Go.RowKit Go.Shelf Go.Proofs.YthdognlkacjkhaaGreatDoorW.PrintWords Go.Proofs.YthdognlkacjkhaaGreatDoorW.PrintLast Go.Proofs.YthdognlkacjkhaaGreatDoorW.PrintMore
set_option linter.unusedVariables false
set_option linter.unusedSimpArgs false
attribute [local go_sem] Oper.semAt_some

/-- The headers of a name, with their places, from place i on. -/
def ofList (n : ByteArray) : List S170 → Nat → Option (List (Nat × S170))
  | [], _ => some []
  | h :: t, i => (text_Like.f h.f0 n).bind fun b => (ofList n t (i + 1)).bind fun r => some (if b = true then (i, h) :: r else r)
def encH (x : Nat × S170) : Array Value := #[.int .i64 (x.1 : Int), .agg #[.string x.2.f0, .string x.2.f1]]
/-- What a round that goes on keeps: what lay ahead of the call, and the name's box. -/
def KpH (w0 : World) (Bn : Nat) (W W' : World) : Prop := Below w0.heap.size W W' ∧ W'.heap[Bn]? = W.heap[Bn]?

theorem of_in (n : Nat) (A0 : Option Addr) (m c0 : Nat) (nm : ByteArray) (w : World) :
    CallsIn Fence.wide n Tryz.prog 127 #[.slice A0 m c0, .string nm] w fun e w' =>
      e = .returned (.func (.func 139) #[] #[.pointer (some ⟨w.heap.size, 0, none⟩), .pointer (some ⟨w.heap.size + 1, 0, none⟩)]) ∧
      w' = (w.alloc (.cells #[.slice A0 m c0] 79)).alloc (.cells #[.string nm] 9) := by
  refine callsIn_of_wp Tryz.func127 rfl trivial ?_ rfl
  simp only [Tryz.ntmps127, List.size_toArray, List.length_cons, List.length_nil, Nat.reduceAdd, Nat.reduceSub, Array.replicate_succ, Array.replicate_zero, List.push_toArray, List.append_toArray, List.nil_append, List.cons_append]
  gi_wp2
  go_ret
  exact ⟨by simp, rfl⟩

/-- A block is laid, then a callee runs: no elder block turns; the block's two cells lie. -/
theorem fresh_like {w w2 : World} {a b : Value} {t : TypeId} (h : Below (w.alloc (.cells #[a, b] t)).heap.size (w.alloc (.cells #[a, b] t)) w2) : w.grownBy w2 none :=
  ⟨h.os, h.tape, h.output, by have := h.size; simp at this; omega, fun k hk _ => (h.block k (by simp; omega)).trans (Below.heap_alloc _ _ k hk)⟩
theorem fresh_cells {w w2 : World} {a b : Value} {t : TypeId} (h : Below (w.alloc (.cells #[a, b] t)).heap.size (w.alloc (.cells #[a, b] t)) w2) :
    w2.cell? ⟨w.heap.size, 0, none⟩ = some a ∧ w2.cell? ⟨w.heap.size, 1, none⟩ = some b := by
  have e : w2.heap[w.heap.size]? = some (.cells #[a, b] t (0, 0)) := (h.block w.heap.size (by simp)).trans (World.alloc_heap_new w _)
  constructor <;> simp [World.cell?, e]
/-- A loop's measure, as a law of its own: the kernel looks into no number. -/
theorem measure_nextH (L i : Nat) (z : Int) (h : z = ((i + 1 : Nat) : Int)) (hlt : i < L) : L - (intOf (.int .i64 z)).toNat < L - (intOf (.int .i64 (i : Int))).toNat := by
  subst h
  show L - (((i + 1 : Nat) : Int)).toNat < L - ((i : Nat) : Int).toNat
  rw [Int.toNat_natCast, Int.toNat_natCast]
  omega
theorem _root_.Go.World.grownBy.below' {w w2 : World} (h : w.grownBy w2 none) (n : Nat) (hn : n ≤ w.heap.size := by omega) : Below n w w2 := ⟨h.os, h.tape, h.output, h.size, fun k hk => h.block k (by omega) (by simp)⟩
theorem abides_lower {β : Type} {B B' : Nat} {J : β → World → Prop} (h : AbidesFrom B J) (hb : B ≤ B') : AbidesFrom B' J := fun s W W' row hs hg hr => h s W W' row hs hg (fun r e => ⟨Nat.le_trans hb (hr r e).1, (hr r e).2⟩)
theorem wrap_nextH (i : Nat) (h : i < 9223372036854775807) : wrap64 ((i : Int) + 1) = ((i + 1 : Nat) : Int) := by unfold wrap64; omega

set_option maxRecDepth 100000 in
set_option maxHeartbeats 2000000 in
theorem of1_in (n : Nat) (hn : 1 ≤ n) (l Bl Bn : Nat) (w0 : World) (A0 : Option Addr) (c0 : Nat) (l0 : List S170) (nm : ByteArray) (xs : List (Nat × S170)) (J Jx : List (Nat × S170) → World → Prop)
    (hr0 : Kd.C k170 w0 A0 l0.length l0) (hxs : ofList nm l0 0 = some xs)
    (hY : ∀ pre x W, J pre W → pre ++ [x] <+: xs → YieldAt Fence.wide (n - 1) Tryz.prog l (encH x) W fun e W' =>
      (e = .returned (.bool true) ∧ J (pre ++ [x]) W' ∧ KpH w0 Bn W W') ∨ (e = .returned (.bool false) ∧ Jx (pre ++ [x]) W'))
    (W : World) (hJ : AbidesFrom W.heap.size J) (hW0 : Below w0.heap.size w0 W) (hBl : W.cell? ⟨Bl, 0, none⟩ = some (.slice A0 l0.length c0)) (hBn : W.heap[Bn]? = some (.cells #[.string nm] 9 (0, 0))) (h0 : J [] W) :
    CallsIn Fence.wide n Tryz.prog 139 #[.func (.yield l) #[] #[], .pointer (some ⟨Bl, 0, none⟩), .pointer (some ⟨Bn, 0, none⟩)] W fun e W' => (∃ v, e = .returned v) ∧
      ((∃ ys, ys = xs ∧ J ys W') ∨ (∃ pre, pre <+: xs ∧ Jx pre W')) := by
  have HR0 := Aside0.mk hr0
  have HXS := Aside0.mk hxs
  have HY := Aside0.mk hY
  have HJ := Aside0.mk hJ
  have HN := Aside0.mk hr0.2.1
  have HW0 := Aside0.mk hW0
  have HBN := Aside0.mk hBn
  have H0 := Aside0.mk h0
  clear hr0 hxs hY hJ hW0 hBn h0
  refine callsIn_of_wp Tryz.func139 rfl trivial ?_ rfl
  simp only [Tryz.ntmps139, List.size_toArray, List.length_cons, List.length_nil, Nat.reduceAdd, Nat.reduceSub, Array.replicate_succ, Array.replicate_zero, List.push_toArray, List.append_toArray, List.nil_append, List.cons_append]
  gi_wp2
  gi_loopw [8] (fun v8 wr => ∃ (i : Nat) (pre rest : List (Nat × S170)), v8 = .int .i64 (i : Int) ∧ Aside0 (i ≤ l0.length) ∧ Aside0 (ofList nm (l0.drop i) i = some rest) ∧ Aside0 (xs = pre ++ rest) ∧ Aside0 (J pre wr) ∧ Aside0 (Below w0.heap.size W wr) ∧ Aside0 (wr.heap[Bn]? = some (.cells #[.string nm] 9 (0, 0))) ∧ Aside0 (W.heap.size ≤ wr.heap.size)) (fun v8 _ => l0.length - (intOf v8).toNat)
  case atStart => exact ⟨0, [], xs, rfl, ⟨Nat.zero_le _⟩, ⟨by rw [List.drop_zero]; exact HXS.out⟩, ⟨rfl⟩, H0, ⟨Below.refl _ _⟩, HBN, ⟨Nat.le_refl _⟩⟩
  case round =>
    clear H0 HBN
    obtain ⟨i, pre, rest, rfl, HI, HA, HX, HJp, HB, HBN, HSZ⟩ := hrel
    by_cases hlt : i < l0.length
    · have c3b0 : decide ((i : Int) < (l0.length : Int)) = true := decide_eq_true (by omega)
      have c3b1 : decide (i < l0.length) = true := decide_eq_true hlt
      have c3b2 : (0 : Int) ≤ (i : Int) := Int.natCast_nonneg i
      obtain ⟨ad, e133, hx0, hx1⟩ := at_T170 HR0.out (i : Int) c3b2 (by omega)
      cases e133
      have hb0 := HW0.out.trans HB.out
      replace hx0 := (hb0.cell (World.block_lt_of_cell? w0 _ hx0)).trans hx0
      replace hx1 := (hb0.cell (World.block_lt_of_cell? w0 _ hx1)).trans hx1
      rw [Int.toNat_natCast] at hx0 hx1
      have hcn : wr.cell? ⟨Bn, 0, none⟩ = some (.string nm) := by simp [World.cell?, HBN.out]
      have hlb : Bn < wr.heap.size := (Array.getElem?_eq_some_iff.1 HBN.out).1
      have HLB := Aside0.mk hlb
      clear hb0 hlb
      have hd : l0.drop i = rd_T170 l0 (i : Int) :: l0.drop (i + 1) := by
        rw [List.drop_eq_getElem_cons hlt]
        congr 1
        unfold rd_T170
        rw [Int.toNat_natCast, List.getD_eq_getElem?_getD, List.getElem?_eq_getElem hlt]
        rfl
      have hA := HA.out
      rw [hd] at hA
      unfold ofList at hA
      obtain ⟨b, hb, hA⟩ := Option.bind_eq_some_iff.mp hA
      obtain ⟨rest', hb', hA⟩ := Option.bind_eq_some_iff.mp hA
      have HLK := Aside0.mk hb
      have HA2 := Aside0.mk hb'
      have HA3 := Aside0.mk (Option.some.inj hA)
      clear hb hb' hA HA hd
      replace c3b2 := eq_true c3b2
      have hcn2 : (wr.alloc (.cells #[.string (rd_T170 l0 (i : Int)).f0, .string (rd_T170 l0 (i : Int)).f1] 170)).cell? ⟨Bn, 0, none⟩ = some (.string nm) := (((Below.refl wr.heap.size wr).alloc (Nat.le_refl _) _).cell (p := ⟨Bn, 0, none⟩) HLB.out).trans hcn
      have hn1 : 1 ≤ n - 1 ∨ n - 1 = 0 := by omega
      clear hn1
      have e1 := wrap_nextH i (Nat.lt_of_lt_of_le hlt HN.out)
      have E1 := Aside0.mk e1
      cases b with
      | true =>
        have HR := Aside0.mk ((if_pos rfl).symm.trans HA3.out)
        gi_wp2_with (first
          | (refine ⟨trivial, ?_⟩; gi_at_call 91; refine (callsIn_wide.2 (text_Like.calls (rd_T170 l0 (i : Int)).f0 nm true _ HLK.out)).mono ?_; rintro e w2 ⟨rfl, hB2⟩
             have hg2 : wr.grownBy w2 none := fresh_like hB2
             have hz0 := fresh_cells hB2
             have hz1 := hz0.2
             replace hz0 := hz0.1
             have hbn2 : w2.heap[Bn]? = some (.cells #[.string nm] 9 (0, 0)) := (hg2.block Bn HLB.out (by simp)).trans HBN.out
             have HBN2 := Aside0.mk hbn2
             have HG2 := Aside0.mk hg2
             have hJ2 : J pre w2 := (abides_lower HJ.out HSZ.out) pre wr w2 none HJp.out hg2 (fun r e => by cases e)
             obtain ⟨fn, tmps, assign, body, hy, hR⟩ := HY.out pre (i, rd_T170 l0 (i : Int)) w2 hJ2 ⟨rest', by rw [HX.out, ← HR.out]; simp⟩
             dsimp only [encH] at hy
             clear hB2 hg2 hJ2 hbn2))
        refine hR.mono ?_
        rintro e W3 (⟨rfl, hJ3, hk3⟩ | ⟨rfl, hJx3⟩)
        · have HJ3 := Aside0.mk hJ3
          have HK3 := Aside0.mk hk3
          clear hJ3 hk3
          gi_wp2
          go_roundw
          case rel => exact ⟨i + 1, pre ++ [(i, rd_T170 l0 (i : Int))], rest', congrArg (Value.int .i64) E1.out, ⟨hlt⟩, ⟨HA2.out⟩, ⟨by rw [HX.out, ← HR.out]; simp⟩, HJ3, ⟨(HB.out.trans (HG2.out.below' w0.heap.size (Nat.le_trans HW0.out.size HSZ.out))).trans HK3.out.1⟩, ⟨HK3.out.2.trans HBN2.out⟩, ⟨Nat.le_trans HSZ.out (Nat.le_trans HG2.out.size HK3.out.1.size)⟩⟩
          case measure => exact measure_nextH l0.length i _ E1.out hlt
        · gi_wp2
          refine bodyPost_ret (results_none rfl _ _ _) rfl ?_
          exact ⟨⟨_, rfl⟩, .inr ⟨_, ⟨rest', by rw [HX.out, ← HR.out]; simp⟩, hJx3⟩⟩
      | false =>
        have HR := Aside0.mk ((if_neg (show ¬ (false = true) by decide)).symm.trans HA3.out)
        gi_wp2_with (first
          | (refine ⟨trivial, ?_⟩; gi_at_call 91; refine (callsIn_wide.2 (text_Like.calls (rd_T170 l0 (i : Int)).f0 nm false _ HLK.out)).mono ?_; rintro e w2 ⟨rfl, hB2⟩
             have hg2 : wr.grownBy w2 none := fresh_like hB2
             have hbn2 : w2.heap[Bn]? = some (.cells #[.string nm] 9 (0, 0)) := (hg2.block Bn HLB.out (by simp)).trans HBN.out
             have HBN2 := Aside0.mk hbn2
             have HG2 := Aside0.mk hg2
             have hJ2 : J pre w2 := (abides_lower HJ.out HSZ.out) pre wr w2 none HJp.out hg2 (fun r e => by cases e)
             have HJ2 := Aside0.mk hJ2
             clear hB2 hg2 hJ2 hbn2))
        refine ⟨fun _ h => (by cases h), ?_⟩
        gi_wp2
        go_roundw
        case rel => exact ⟨i + 1, pre, rest', congrArg (Value.int .i64) E1.out, ⟨hlt⟩, ⟨HA2.out⟩, ⟨by rw [HX.out, ← HR.out]⟩, HJ2, ⟨HB.out.trans (HG2.out.below' w0.heap.size (Nat.le_trans HW0.out.size HSZ.out))⟩, HBN2, ⟨Nat.le_trans HSZ.out HG2.out.size⟩⟩
        case measure => exact measure_nextH l0.length i _ E1.out hlt
    · have c3b0 : decide ((i : Int) < (l0.length : Int)) = false := decide_eq_false (by omega)
      have c3b1 : decide (i < l0.length) = false := decide_eq_false hlt
      have hA := HA.out
      rw [List.drop_of_length_le (by omega)] at hA
      have hr := Option.some.inj hA
      have HR := Aside0.mk hr
      clear hA HA hr
      gi_wp2
      go_end0
      exact ⟨⟨_, rfl⟩, .inl ⟨pre, by rw [HX.out, ← HR.out, List.append_nil], HJp.out⟩⟩

theorem ofList_length (nm : ByteArray) : ∀ (l : List S170) (i : Nat) (xs : List (Nat × S170)), ofList nm l i = some xs → xs.length ≤ l.length
  | [], i, xs, h => by cases Option.some.inj h; exact Nat.le_refl _
  | x :: l, i, xs, h => by
    unfold ofList at h
    obtain ⟨b, _, h⟩ := Option.bind_eq_some_iff.mp h
    obtain ⟨r, hr, h⟩ := Option.bind_eq_some_iff.mp h
    have ih := ofList_length nm l (i + 1) r hr
    cases Option.some.inj h
    split
    · rw [List.length_cons, List.length_cons]; omega
    · rw [List.length_cons]; omega
/-- Nothing of the iterator at no headers; at headers: of1_in. -/
theorem of_stops (n : Nat) (hn : 1 ≤ n) (Bl Bn : Nat) (w0 : World) (A0 : Option Addr) (c0 : Nat) (l0 : List S170) (nm : ByteArray) (xs : List (Nat × S170)) (hr0 : Kd.C k170 w0 A0 l0.length l0) (hxs : ofList nm l0 0 = some xs)
    (W0 : World) (hW0 : Below w0.heap.size w0 W0) (hBl : Boxed W0 Bl 79 (.slice A0 l0.length c0)) (hBn : Boxed W0 Bn 9 (.string nm)) :
    SeqStopsK Fence.wide n Tryz.prog 139 #[.pointer (some ⟨Bl, 0, none⟩), .pointer (some ⟨Bn, 0, none⟩)] encH (KpH w0 Bn) (fun ys => ys = xs) (fun pre => pre <+: xs) xs.length W0 :=
  fun l J Jx W hW hJ _ hY h0 => of1_in n hn l Bl Bn w0 A0 c0 l0 nm xs J Jx hr0 hxs (fun pre x W hj hp => hY pre x W hj (by have := hp.length_le; simp at this; omega)) W hJ (hW0.trans (hW.mono hW0.size)) ((hW.cell (p := ⟨Bl, 0, none⟩) hBl.lt).trans hBl.cell) ((hW.block Bn hBn.lt).trans hBn) h0
theorem kp_t {w0 : World} {Bn : Nat} {A B C : World} (h : KpH w0 Bn A B) (k : KpH w0 Bn B C) : KpH w0 Bn A C := ⟨h.1.trans k.1, k.2.trans h.2⟩
theorem kp_b {w0 W0 : World} {Bn : Nat} (h0 : w0.heap.size ≤ W0.heap.size) (hb : Bn < W0.heap.size) (W : World) (l : Nat) (o o' : Obj) (hl : W0.heap.size ≤ l) (ho : W.heap[l]? = some o) (h1 : o.isCells = false) (h2 : o.isWalk = false) : KpH w0 Bn W (W.putObj l o') :=
  ⟨belowK_b (w := W0) h0 W l o o' hl ho h1 h2, World.putObj_heap_other (by omega)⟩
/-- 'out = append(out, ..)' where out's box lies ahead of its rows: as Boxed.appended; and no block ahead of the rows but the box turns. -/
theorem appended_far {W w1 : World} {n₀ B : Nat} {t e : TypeId} {size : Nat} {v v' : Value} {k m : Nat} {xs ys : List Value} {tmp : Obj}
    (hv : Boxed W B t v) (hte : t ≠ e) (hrow : W.ownsRow n₀ e size v k xs) (hn₀ : n₀ ≤ W.heap.size) (hB : B < n₀)
    (hown' : w1.ownsRow n₀ e size v' m ys) (hgrow : (W.alloc tmp).grownBy w1 v.ownBlock) :
    Boxed w1 B t v ∧ Boxed (w1.setCell ⟨B, 0, none⟩ v') B t v' ∧ (w1.setCell ⟨B, 0, none⟩ v').ownsRow n₀ e size v' m ys ∧ KeepsOthers W (w1.setCell ⟨B, 0, none⟩ v') ∧ Below B W (w1.setCell ⟨B, 0, none⟩ v') ∧ ∀ k, k < n₀ → k ≠ B → (w1.setCell ⟨B, 0, none⟩ v').heap[k]? = W.heap[k]? := by
  obtain ⟨h1, h2, _, h4, h5⟩ := hv.appended hte (own_weaken hrow (Nat.zero_le _)) (Nat.zero_le _) (Nat.zero_le _) (own_weaken hown' (Nat.zero_le _)) hgrow
  have hall : ∀ k, k < n₀ → k ≠ B → (w1.setCell ⟨B, 0, none⟩ v').heap[k]? = W.heap[k]? := fun k hk hkB =>
    (Below.heap_setCell w1 ⟨B, 0, none⟩ v' k hkB).trans ((hgrow.block k (by simp; omega) (fun e => by have := own_base hrow k e.symm; omega)).trans (Below.heap_alloc _ _ k (by omega)))
  exact ⟨h1, h2, hown'.kept (grownBy_setCell' w1 B v') (.inr (h1.not_row hte hown').symm), h4, ⟨h5.os, h5.tape, h5.output, h5.size, fun k hk => hall k (by omega) (by omega)⟩, hall⟩
theorem info_str : (Tryz.prog.info? 9).map (fun i => (i.zero, i.size, i.bytes)) = some (some (.string ⟨#[]⟩), 1, 16) := by kernel_rfl
theorem cells_kept {W W' : World} {row : Option Nat} {B : Nat} {cs : Array Value} {t : TypeId} (h : W.heap[B]? = some (.cells cs t (0, 0))) (hg : W.grownBy W' row) (hr : ∀ r, row = some r → ∃ o : Obj, W.heap[r]? = some o ∧ o.isCells = false) : W'.heap[B]? = some (.cells cs t (0, 0)) :=
  (hg.block B (Array.getElem?_eq_some_iff.1 h).1 (fun e => by obtain ⟨o, ho, hc⟩ := hr B e.symm; rw [h] at ho; cases ho; cases hc)).trans h

def valsOf (pre : List (Nat × S170)) : List ByteArray := pre.map fun x => x.2.f1
theorem valsOf_snoc (pre : List (Nat × S170)) (x : Nat × S170) : valsOf (pre ++ [x]) = valsOf pre ++ [x.2.f1] := by simp [valsOf]
theorem valsOf_length (pre : List (Nat × S170)) : (valsOf pre).length = pre.length := by simp [valsOf]

def head_All.f (l0 : List S170) (a1 : ByteArray) : Option (List ByteArray) := if l0.length ≤ 1000000 then (ofList a1 l0 0).bind fun r => some (valsOf r) else none
set_option maxRecDepth 100000 in
set_option maxHeartbeats 4000000 in
theorem head_All.calls (A0 : Option Addr) (c0 : Nat) (l0 : List S170) (a1 : ByteArray) (r : List ByteArray) (w : World) (hr0 : Kd.C k170 w A0 l0.length l0) (hc0 : l0.length ≤ c0) (h : head_All.f l0 a1 = some r) :
    Calls Tryz.prog 113 #[.slice A0 l0.length c0, .string a1] w fun e w' => ∃ v0_ : Value, e = .returned v0_ ∧ Kd.R Kd.string 9 w' w.heap.size (fun _ => True) v0_ r ∧ Below w.heap.size w w' := by
  unfold head_All.f at h
  split at h
  case isFalse => exact absurd h (by simp)
  rename_i hs
  obtain ⟨xs, hxs, h⟩ := Option.bind_eq_some_iff.mp h
  have HL := Aside0.mk (Nat.le_trans (ofList_length a1 l0 0 xs hxs) hs)
  have HXS := Aside0.mk hxs
  have HR := Aside0.mk (Option.some.inj h)
  have HR0 := Aside0.mk hr0
  clear h hs hxs hr0 hc0
  obtain ⟨i0, hi, hz0, hz1, hz2⟩ := info_parts info_str
  refine (callsIn_wide (n := 9)).1 ?_
  refine callsIn_of_wp_marks Tryz.func113 rfl trivial ?_ rfl
  simp only [Tryz.ntmps113, List.size_toArray, List.length_cons, List.length_nil, Nat.reduceAdd, Nat.reduceSub, Array.replicate_succ, Array.replicate_zero, List.push_toArray, List.append_toArray, List.nil_append, List.cons_append]
  gi_wp2_with (refine ⟨trivial, ?_⟩; gi_at_call 127; refine (of_in _ _ _ _ _ _).mono ?_; rintro e w' ⟨rfl, rfl⟩)
  have bO := ((Boxed.new w 64 (.slice none 0 0)).alloc (.cells #[.slice A0 l0.length c0] 79)).alloc (.cells #[.string a1] 9)
  have bL := (Boxed.new (w.alloc (.cells #[.slice none 0 0] 64)) 79 (.slice A0 l0.length c0)).alloc (.cells #[.string a1] 9)
  have bN := Boxed.new ((w.alloc (.cells #[.slice none 0 0] 64)).alloc (.cells #[.slice A0 l0.length c0] 79)) 9 (.string a1)
  simp only [World.size_alloc] at bO bL bN
  have hB0 : Below w.heap.size w (((w.alloc (.cells #[.slice none 0 0] 64)).alloc (.cells #[.slice A0 l0.length c0] 79)).alloc (.cells #[.string a1] 9)) := (((Below.refl _ w).alloc (Nat.le_refl _) _).alloc (by simp) _).alloc (by simp; omega) _
  have hsz : (((w.alloc (.cells #[.slice none 0 0] 64)).alloc (.cells #[.slice A0 l0.length c0] 79)).alloc (.cells #[.string a1] 9)).heap.size = w.heap.size + 3 := by simp
  obtain ⟨W0, hW0⟩ : ∃ W0, ((w.alloc (.cells #[.slice none 0 0] 64)).alloc (.cells #[.slice A0 l0.length c0] 79)).alloc (.cells #[.string a1] 9) = W0 := ⟨_, rfl⟩
  rw [hW0] at bO bL bN hB0 hsz ⊢
  clear hW0
  refine wpIn_rangeFunc_ownH rfl (by omega) (gf := 139) (lb := #[.pointer (some ⟨w.heap.size + 1, 0, none⟩), .pointer (some ⟨w.heap.size + 1 + 1, 0, none⟩)]) rfl trivial (enters_of Tryz.func139 (by kernel_rfl) rfl)
    (of_stops _ (by omega) (w.heap.size + 1) (w.heap.size + 1 + 1) w A0 c0 l0 a1 xs HR0.out HXS.out W0 hB0 bL bN) kp_t (kp_b (by omega) (by omega)) (Below.refl _ _) (fun _ => rfl)
    (fun pre W => (∃ v, Boxed W w.heap.size 64 v ∧ W.ownsRow (w.heap.size + 3) 9 1 v (valsOf pre).length ((valsOf pre).map Value.string) ∧ True) ∧ (Boxed W (w.heap.size + 1 + 1) 9 (.string a1) ∧ Below w.heap.size w W))
    (fun _ _ _ => False)
    (OwnFrom.and (Own.from (holdsRow_own (w.heap.size + 3) w.heap.size 64 9 1 (fun pre => (valsOf pre).length) (fun pre => (valsOf pre).map Value.string) (fun _ _ => True)) _) (OwnFrom.and (Own.from (boxed_own _ _ _) _) (ownFrom_below (Nat.le_refl _) (by omega))))
    (fun _ _ _ _ _ hs _ _ => hs)
    ⟨⟨_, bO, World.ownsRow_nil _ _ _ _, trivial⟩, bN, hB0⟩
    (fun x a' W => ∃ Bx, w.heap.size + 2 < Bx ∧ W.heap[Bx]? = some (.cells #[.string x.2.f0, .string x.2.f1] 170 (0, 0)) ∧ a' = { tmps := #[.slice A0 l0.length c0, .string a1, undef, undef, .slice none 0 0, .pointer (some ⟨w.heap.size, 0, none⟩), undef, .pointer (some ⟨Bx, 0, none⟩), .slice A0 l0.length c0, .string a1, .func (.func 139) #[] #[.pointer (some ⟨w.heap.size + 1, 0, none⟩), .pointer (some ⟨w.heap.size + 1 + 1, 0, none⟩)], .int .i64 (x.1 : Int), .agg #[.string x.2.f0, .string x.2.f1], undef, undef, undef, undef, undef, undef], defers := [] })
    (fun x a' _ X Y row hs hg hr => by obtain ⟨Bx, h1, h2, h3⟩ := hs; exact ⟨Bx, h1, cells_kept h2 hg (fun r e => (hr r e).2), h3⟩)
    ?assign ?body ?done ?stop
  case assign =>
    rintro l pre x W K ⟨⟨v, hv, hrow, _⟩, bN1, hB1⟩ hK
    have hlt := bN1.lt
    dsimp only [encH]
    gi_wp2
    exact hK _ _ ((KeepsOthers.alloc _ _).from _) ⟨(Below.refl _ W).alloc hB1.size _, Below.heap_alloc _ _ _ bN1.lt⟩ ⟨⟨v, hv.alloc _, hrow.alloc _, trivial⟩, bN1.alloc _, hB1.alloc hB1.size _⟩ ⟨W.heap.size, by omega, World.alloc_heap_new W _, rfl⟩
  case body =>
    rintro l pre x a' W hl hrl ⟨⟨v, hv, hrow, _⟩, bN1, hB1⟩ ⟨Bx, hBx, bX, rfl⟩ hlt
    have hc := hv.cell
    have hx1 : W.cell? ⟨Bx, 1, none⟩ = some (.string x.2.f1) := by simp [World.cell?, bX]
    have hsW := bN1.lt
    have HPL := Aside0.mk (valsOf_length pre)
    have hmax : (1000001 : Nat) ≤ maxLen := by decide
    gi_wp2_with (gi_at_builtin; refine wpListIn_append_own _ rfl _ _ 64 rfl (w.heap.size + 3) 9 i0 (.string ⟨#[]⟩) 1 16 Tryz.underlying64 hi hz0 hz1 hz2 rfl (by decide) _ _ _ rfl (hrow.alloc _) ⟨W.heap.size, 0, none⟩ 1 1 [.string x.2.f1] rfl rfl (cell_one_new _ _ _) (by simp [Value.oneCell']) (by have := HPL.out; have := HL.out; omega) (by have := HPL.out; have := HL.out; omega) (by simp; omega) ?_; intro v' w1 hown' hgrow _; obtain ⟨g', cap', rfl⟩ := ownsRow_succ hown'; obtain ⟨hv1, hv2, hr2, hk2, hb2, hf2⟩ := appended_far hv (by decide) hrow (by omega) (by omega) hown' hgrow; have hc1 := hv1.cell; have hf1 := hv1.frozen)
    exact ⟨hk2.from _, ⟨hb2, hf2 _ (by omega) (by omega)⟩, ⟨_, hv2, by rw [valsOf_snoc]; simpa using hr2, trivial⟩, (hf2 _ (by omega) (by omega)).trans bN1, hB1.trans hb2⟩
  case done =>
    rintro D ys W hD rfl ⟨⟨v, hv, hrow, _⟩, bN1, hB1⟩ hK
    have hc := hv.cell
    gi_wp2
    refine ⟨by simp, .inl ⟨_, _, rfl, run_takeDeferred hK, ?_⟩⟩
    exact ⟨_, results_tmp rfl _ _ _, v, rfl, by rw [← HR.out]; exact Kd.R_of_own (own_weaken (ownsRow_putObj hrow _ hK rfl) (by omega)) (fun _ _ => trivial), hB1.trans (belowK_b (w := w) (Nat.le_refl _) W D _ _ (by omega) hK rfl rfl)⟩
  case stop =>
    rintro D c pre W _ _ h _
    exact h.elim
end Go.Proofs.YthdognlkacjkhaaGreatDoor.P
