/-
  preflight.Age: for how long headers grant.
-/
import Derived.Test.YthjhbhgfckaklaaDoorMTxt
import Derived.Test.YthjhbhgfckaklaaDoorHeadG
namespace Go.Proofs.YthjhbhgfckaklaaDoor.P
open Go.RowKit Go.Shelf Go.Proofs.YthjhbhgfckaklaaDoorW.PrintWords Go.Proofs.YthjhbhgfckaklaaDoorW.PrintLast Go.Proofs.YthjhbhgfckaklaaDoorW.PrintMore
set_option linter.unusedVariables false
set_option linter.unusedSimpArgs false
/-- Are all signs from a place on digits? -/
def digFrom (s : ByteArray) : Nat → Nat → Bool
  | 0, _ => true
  | f + 1, pos => if pos < s.size then (if (Utf8.decode s pos).1 < 48 ∨ 57 < (Utf8.decode s pos).1 then false else digFrom s f (pos + (Utf8.decode s pos).2)) else true
theorem digFrom_end (s : ByteArray) (f pos : Nat) (h : ¬ pos < s.size) : digFrom s f pos = true := by
  cases f with
  | zero => rfl
  | succ f => rw [digFrom, if_neg h]
def nAge : ByteArray := ⟨#[65, 99, 99, 101, 115, 115, 45, 67, 111, 110, 116, 114, 111, 108, 45, 77, 97, 120, 45, 65, 103, 101]⟩
-- EXT abatis/preflight.Age {"rounds": 0, "making": 1}
def preflight_Age.f (l0 : List S25) : Option Int :=
  (head_Get.f l0 nAge).bind fun g => if digFrom g.1 g.1.size 0 = true then (text_Number.f g.1 10).bind fun q => some (if g.1.size = 0 then 5 else if q.2 = true then min q.1 7200 else 7200) else some 5
set_option maxHeartbeats 4000000 in
set_option maxRecDepth 100000 in
theorem preflight_Age.calls (A0 : Option Addr) (c0 : Nat) (l0 : List S25) (r : Int) (w : World) (hr0 : Kd.C k25 w A0 l0.length l0) (hc0 : l0.length ≤ c0) (h : preflight_Age.f l0 = some r) :
    Calls Tryd.prog 29 #[.slice A0 l0.length c0] w fun e w' => e = .returned (.int .i64 r) ∧ Below w.heap.size w w' := by
  unfold preflight_Age.f at h
  obtain ⟨⟨v, is⟩, hg, h⟩ := Option.bind_eq_some_iff.mp h
  have HR0 := Aside0.mk hr0
  have HC0 := Aside0.mk hc0
  have HG := Aside0.mk hg
  have H := Aside0.mk h
  clear hr0 hc0 hg h
  go_enter Tryd.func29, Tryd.ntmps29
  go_wp2_with (go_at_call 60; refine (head_Get.calls A0 c0 l0 nAge v is _ HR0.out HC0.out HG.out).mono ?_; rintro e w1 ⟨rfl, hB1⟩)
  have HB1 := Aside0.mk hB1
  clear hB1
  go_loopw [6] (fun v6 w' => ∃ (pos b : Nat), w'.heap[w1.heap.size]? = some (.stringIter v pos) ∧ Below w1.heap.size w1 w' ∧ Aside0 (digFrom v b pos = digFrom v v.size 0) ∧ v.size ≤ pos + b) (fun _ w' => v.size - w'.iterPos w1.heap.size)
  case atStart => exact ⟨0, v.size, World.iter_heap w1 v 0, iter_below' w1 v 0, ⟨rfl⟩, by omega⟩
  case round =>
    obtain ⟨pos, b, hit, hB, hc, hb⟩ := hrel
    have HI := Aside0.mk hit
    have HB := Aside0.mk hB
    have hsz : w1.heap.size < wr.heap.size := blk_lt hit
    clear hB
    by_cases hp : pos < v.size
    · obtain ⟨b, rfl⟩ : ∃ b', b = b' + 1 := ⟨b - 1, by omega⟩
      have hnx : ∀ ty, (Instr.next (.pointer (some ⟨w1.heap.size, 0, none⟩)) true ty).run Tryd.prog wr = _ := fun ty => Lib.run_next_any_at wr w1.heap.size v pos ty hit hp
      clear hit
      have HI2 := Aside0.mk (Lib.iterAt_heap wr w1.heap.size v pos (pos + (Utf8.decode v pos).2) HI.out)
      have HB2 := Aside0.mk (Lib.below_iterAt HB.out (k := w1.heap.size) (Nat.le_refl _) v (pos + (Utf8.decode v pos).2))
      have hwd := Lib.decode_width_pos v pos hp
      have hle := decode_le v pos
      have hst : digFrom v (b + 1) pos = if (Utf8.decode v pos).1 < 48 ∨ 57 < (Utf8.decode v pos).1 then false else digFrom v b (pos + (Utf8.decode v pos).2) := by rw [digFrom, if_pos hp]
      have HST := Aside0.mk (hst.symm.trans hc.out)
      clear hst hc
      have hfin : (∀ (hbad : (Utf8.decode v pos).1 < 48 ∨ 57 < (Utf8.decode v pos).1), 5 = r) := fun hbad => by
        have h0 := HST.out
        rw [if_pos hbad] at h0
        have h1 := H.out
        rw [← h0, if_neg (by decide)] at h1
        exact Option.some.inj h1
      have HF := Aside0.mk hfin
      clear hfin
      have HW1 := Aside0.mk hb
      clear hb
      by_cases hbad : (Utf8.decode v pos).1 < 48 ∨ 57 < (Utf8.decode v pos).1
      · have hr5 := Aside0.mk (HF.out hbad)
        have hi : ((Utf8.decode v pos).1 : Int) < 48 ∨ 57 < ((Utf8.decode v pos).1 : Int) := by omega
        clear hbad
        rcases hi with hi | hi
        · go_wp2
          go_ret
          exact ⟨by have h5 := hr5.out; subst h5; rfl, HB1.out.trans (HB2.out.mono HB1.out.size)⟩
        · go_wp2
          go_ret
          exact ⟨by have h5 := hr5.out; subst h5; rfl, HB1.out.trans (HB2.out.mono HB1.out.size)⟩
      · have hn := HST.out
        rw [if_neg hbad] at hn
        have HN := Aside0.mk hn
        have HDW := Aside0.mk hwd
        have hi1 : ¬ ((Utf8.decode v pos).1 : Int) < 48 := by omega
        have hi2 : ¬ 57 < ((Utf8.decode v pos).1 : Int) := by omega
        clear hbad hn
        go_wp2
        go_roundw
        case rel => exact ⟨pos + (Utf8.decode v pos).2, b, HI2.out, HB2.out, HN, by have := HW1.out; omega⟩
        case measure =>
          have e1 : (wr.iterAt w1.heap.size v (pos + (Utf8.decode v pos).2)).iterPos w1.heap.size = pos + (Utf8.decode v pos).2 := by simp only [World.iterPos, HI2.out]
          have e2 : wr.iterPos w1.heap.size = pos := by simp only [World.iterPos, HI.out]
          rw [e1, e2]
          omega
    · have hnx : ∀ ty, (Instr.next (.pointer (some ⟨w1.heap.size, 0, none⟩)) true ty).run Tryd.prog wr = _ := fun ty => Lib.run_next_end_at wr w1.heap.size v pos ty hit hp
      clear hit
      have hd : digFrom v v.size 0 = true := hc.out.symm.trans (digFrom_end v b pos hp)
      have h1 := H.out
      rw [hd, if_pos rfl] at h1
      obtain ⟨⟨n, ok⟩, hn, h1⟩ := Option.bind_eq_some_iff.mp h1
      have HN := Aside0.mk hn
      have HR := Aside0.mk (Option.some.inj h1)
      clear h1 hn hd hc
      have HBE := Aside0.mk (HB1.out.trans (HB.out.mono HB1.out.size))
      clear HB1 HB hp
      by_cases hz : v.size = 0
      · have he : v.toList.isEmpty = true := by have := isEmpty_eq v; rw [hz] at this; simpa using this
        have hr : 5 = r := by have := HR.out; rwa [if_pos hz] at this
        have HRR := Aside0.mk hr
        clear hz hr
        go_wp2_with (go_at_call 61; refine (text_Number.calls v 10 n ok _ HN.out).mono ?_; rintro e w2 ⟨rfl, hB2⟩)
        go_ret
        exact ⟨by have h5 := HRR.out; subst h5; rfl, HBE.out.trans (hB2.mono HBE.out.size)⟩
      · have he : v.toList.isEmpty = false := by have := isEmpty_eq v; rw [decide_eq_true (by omega)] at this; simpa using this
        cases ok with
        | false =>
          have hr : 7200 = r := by have := HR.out; rwa [if_neg hz, if_neg (show ¬ (false = true) by decide)] at this
          have HRR := Aside0.mk hr
          clear hz hr
          go_wp2_with (go_at_call 61; refine (text_Number.calls v 10 n false _ HN.out).mono ?_; rintro e w2 ⟨rfl, hB2⟩)
          go_ret
          exact ⟨by have h5 := HRR.out; subst h5; rfl, HBE.out.trans (hB2.mono HBE.out.size)⟩
        | true =>
          have hr : min n 7200 = r := by have := HR.out; rwa [if_neg hz, if_pos rfl] at this
          have HRR := Aside0.mk hr
          clear hz hr
          rcases (by omega : 7200 < n ∨ n ≤ 7200) with hm | hm
          · have hr : 7200 = r := by rw [← HRR.out]; omega
            have HRR := Aside0.mk hr
            clear hr
            go_wp2_with (go_at_call 61; refine (text_Number.calls v 10 n true _ HN.out).mono ?_; rintro e w2 ⟨rfl, hB2⟩)
            go_ret
            exact ⟨by have h5 := HRR.out; subst h5; rfl, HBE.out.trans (hB2.mono HBE.out.size)⟩
          · have hr : n = r := by rw [← HRR.out]; omega
            have HRR := Aside0.mk hr
            clear hr
            go_wp2_with (go_at_call 61; refine (text_Number.calls v 10 n true _ HN.out).mono ?_; rintro e w2 ⟨rfl, hB2⟩)
            go_ret
            exact ⟨by have h5 := HRR.out; subst h5; rfl, HBE.out.trans (hB2.mono HBE.out.size)⟩
end Go.Proofs.YthjhbhgfckaklaaDoor.P
