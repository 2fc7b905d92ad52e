/-
  The contract of strings.IndexRune over a text of bytes below 128 at every rune, and with it those of strings.ContainsRune.
-/
import Derived.Test.YthjhbhgfckaklabDoorTextE
import Derived.WalkMore
import Derived.LoopN
import Derived.Outline
namespace Go.Proofs.YthjhbhgfckaklabDoor.P
open Go.RowKit Go.Proofs.YthjhbhgfckaklabDoorW.PrintWords Go.Proofs.YthjhbhgfckaklabDoorW.PrintLast Go.Proofs.YthjhbhgfckaklabDoorW.PrintMore
set_option linter.unusedVariables false
set_option linter.unusedSimpArgs false

set_option maxHeartbeats 2000000 in
set_option maxRecDepth 100000 in
theorem validRune_walk (r : Int) (b : Bool) (hb : validRune r = b) (w : World) : Calls Tryd.prog 106 #[.int .i32 r] w fun e w' => e = .returned (.bool b) ∧ w = w' := by
  have HB := Aside0.mk hb
  clear hb
  by_cases a : 0 ≤ r
  · by_cases c : r < 55296
    · have e : b = true := by rw [← HB.out]; exact decide_eq_true (.inl ⟨a, c⟩)
      subst e
      go_enter Tryd.func106, Tryd.ntmps106
      go_wp2
      go_ret
      exact ⟨rfl, rfl⟩
    · by_cases d : 57343 < r
      · by_cases f : r ≤ 1114111
        · have e : b = true := by rw [← HB.out]; exact decide_eq_true (.inr ⟨d, f⟩)
          subst e
          go_enter Tryd.func106, Tryd.ntmps106
          go_wp2
          go_ret
          exact ⟨rfl, rfl⟩
        · have e : b = false := by rw [← HB.out]; exact decide_eq_false (by omega)
          subst e
          go_enter Tryd.func106, Tryd.ntmps106
          go_wp2
          go_ret
          exact ⟨rfl, rfl⟩
      · have e : b = false := by rw [← HB.out]; exact decide_eq_false (by omega)
        subst e
        go_enter Tryd.func106, Tryd.ntmps106
        go_wp2
        go_ret
        exact ⟨rfl, rfl⟩
  · have e : b = false := by rw [← HB.out]; exact decide_eq_false (by omega)
    subst e
    go_enter Tryd.func106, Tryd.ntmps106
    go_wp2
    go_ret
    exact ⟨rfl, rfl⟩

set_option maxHeartbeats 4000000 in
set_option maxRecDepth 100000 in
theorem indexRune_bad (s : ByteArray) (r : Int) (w : World) (h1 : ¬ r < 128) (h2 : (r == 65533) = false) (hv : validRune r = false) :
    Calls Tryd.prog 90 #[.string s, .int .i32 r] w fun e w' => e = .returned (.int .i64 (-1)) ∧ Below w.heap.size w w' := by
  have HV := Aside0.mk hv
  clear hv
  go_enter Tryd.func90, Tryd.ntmps90
  go_wp2_with (go_at_call 106; refine (validRune_walk _ false HV.out _).mono ?_; rintro e w' ⟨rfl, rfl⟩)
  go_ret
  exact ⟨rfl, Below.refl _ _⟩

theorem extract_mem {s : ByteArray} {a e : Nat} {b : UInt8} (h : b ∈ (s.extract a e).data.toList) : b ∈ s.data.toList := mem_extract h

set_option maxHeartbeats 4000000 in
set_option maxRecDepth 100000 in
theorem indexRune_high (s : ByteArray) (r : Int) (w : World) (hs : LowL s) (hsz : s.size ≤ 100000) (h1 : ¬ r < 128) (h2 : (r == 65533) = false) (hv : validRune r = true) :
    Calls Tryd.prog 90 #[.string s, .int .i32 r] w fun e w' => e = .returned (.int .i64 (-1)) ∧ Below w.heap.size w w' := by
  have HV := Aside0.mk hv
  have HS := Aside0.mk hs
  have enc := encode_facts r ((validRune_eq r).trans hv) (by omega)
  clear hv hs
  obtain ⟨e2, e4, eb⟩ := enc
  generalize hq : Utf8.encode r = q at e2 e4 eb
  have HQ := Aside0.mk hq
  have hb := eb (by omega)
  clear eb
  obtain ⟨n, hn⟩ : ∃ n, q.size = n + 1 := ⟨q.size - 1, by omega⟩
  have hn3 : n ≤ 3 := by omega
  have hqn : n < q.size := by omega
  have hb' : 128 ≤ (q[n]'hqn).toNat := by
    have e : q.size - 1 = n := by omega
    simp only [e] at hb
    exact hb
  clear hb e2 e4
  have h0 : (0 : Int) ≤ (n : Int) := by omega
  have hqi : ((n : Int)) < ((n : Int) + 1) := by omega
  by_cases hlen : n < s.size
  · have hlow := HS.out.at n hlen
    have hne : (((s[n]'hlen).toNat : Int) != ((q[n]'hqn).toNat : Int)) = true := by rw [bne_iff_ne]; omega
    have hidx : Lib.indexByte (s.extract (n + 1) s.size).data.toList (((q[n]'hqn).toNat : Int)).toNat.toUInt8 = -1 :=
      indexByte_high _ _ (fun b hb => HS.out b (extract_mem hb)) (by simp; omega)
    have HI := Aside0.mk (fun W => (by have h := strings_IndexByte.same (s.extract (n + 1) s.size) ((q[n]'hqn).toNat : Int) W; rw [hidx] at h; exact h : Calls Tryd.prog 105 #[.string (s.extract (n + 1) s.size), .int .u8 ((q[n]'hqn).toNat : Int)] W fun e w' => e = .returned (.int .i64 (-1)) ∧ w' = W))
    have HNE := Aside0.mk hne
    clear hidx hne
    have hli : ((n : Int)) < (s.size : Int) := by omega
    have hli2 : ((n : Int) + 1) ≤ (s.size : Int) := by omega
    go_enter Tryd.func90, Tryd.ntmps90
    go_wp2_with (go_at_call 106; refine (validRune_walk _ true HV.out _).mono ?_; rintro e w' ⟨rfl, rfl⟩)
    go_step3
    go_wp2
    refine wp_loop_rounds 1 ?_
    rw [rounds_succ]
    go_wp2
    go_step3
    go_wp2
    go_quiet (fail)
    have hne := HNE.out
    go_wp2
    go_quiet ((go_at_call 105; exact (HI.out _).mono (fun _ _ h => ⟨h.1, _, h.2⟩)))
    go_wp2
    rw [Exit.noGoto_ret]
    simp only [Exit.inBlock, Exit.then]
    rw [Exit.noGoto_ret]
    go_ret
    exact ⟨rfl, pw_below_drewN (Below.refl _ _) _⟩
  · have hli : ¬ ((n : Int)) < (s.size : Int) := by omega
    go_enter Tryd.func90, Tryd.ntmps90
    go_wp2_with (go_at_call 106; refine (validRune_walk _ true HV.out _).mono ?_; rintro e w' ⟨rfl, rfl⟩)
    go_step3
    go_wp2
    refine wp_loop_rounds 1 ?_
    rw [rounds_succ]
    go_wp2
    rw [Exit.noGoto_ret]
    go_ret
    exact ⟨rfl, Below.refl _ _⟩
theorem strings_IndexRune.calls (a0 : ByteArray) (a1 r : Int) (w : World) (h : strings_IndexRune.f a0 a1 = some r) :
    Calls Tryd.prog 90 #[.string a0, .int .i32 a1] w fun e w' => e = .returned (.int .i64 r) ∧ Below w.heap.size w w' := by
  unfold strings_IndexRune.f at h
  split at h
  case isFalse => exact absurd h (by simp)
  rename_i hc
  obtain ⟨hl0, hs, h0, h1⟩ := hc
  have hl := lowLB_low hl0
  by_cases a : a1 < 128
  · rw [if_pos a] at h
    obtain rfl := Option.some.inj h
    exact indexRune_low a0 a1 w h0 a
  · rw [if_neg a] at h
    obtain rfl := Option.some.inj h
    by_cases b : a1 = 65533
    · subst b
      exact indexRune_error a0 w hl
    · have b' : (a1 == 65533) = false := by rw [beq_eq_false_iff_ne]; exact b
      cases hv : validRune a1 with
      | true => exact indexRune_high a0 a1 w hl hs a b' hv
      | false => exact indexRune_bad a0 a1 w a b' hv
end Go.Proofs.YthjhbhgfckaklabDoor.P
