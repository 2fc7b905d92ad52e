/-
  Less public is an order of the three: plain.
-/
import Derived.Test.YtjilnigmbnmlfaaDoorPL1
import Derived.Test.YtjilnigmbnmlfaaDoorBase
namespace Go.Proofs.YtjilnigmbnmlfaaDoor.Pure
open Go.RowKit Go.Proofs.YtjilnigmbnmlfaaDoor.P Go.Proofs.YtjilnigmbnmlfaaDoorW.PrintWords Go.Proofs.YtjilnigmbnmlfaaDoorW.PrintLast Go.Proofs.YtjilnigmbnmlfaaDoorW.PrintMore
set_option linter.unusedVariables false
def arI (x : Int) : Int := if x < 0 then Int.tmod (wrap64 (-(wrap64 (x + 1)))) 3 else Int.tmod x 3
theorem ar_eq (x : Int) : r01_Around.f x 3 = some (arI x) := by
  unfold r01_Around.f arI
  by_cases h : x < 0
  · rw [if_pos h, if_neg (by decide), if_pos h]
  · rw [if_neg h, if_neg (by decide), if_neg h]
theorem ar_range {x : Int} (h0 : -9223372036854775808 ≤ x) (h1 : x ≤ 9223372036854775807) : 0 ≤ arI x ∧ arI x ≤ 2 := by
  unfold arI
  have key : ∀ y : Int, 0 ≤ y → 0 ≤ Int.tmod y 3 ∧ Int.tmod y 3 ≤ 2 := fun y hy => by
    rw [Int.tmod_eq_emod_of_nonneg hy]
    omega
  by_cases h : x < 0
  · rw [if_pos h]
    apply key
    unfold wrap64
    omega
  · rw [if_neg h]
    exact key x (by omega)
theorem rd_nat {y : List Int} {i : Nat} (h : i < y.length) : rd y (i : Int) ∈ y := by
  unfold rd
  rw [Int.toNat_natCast, List.getD_eq_getElem?_getD, List.getElem?_eq_getElem h]
  exact List.getElem_mem h
/-- The least one of what is read from a place on. -/
theorem least_loop (y : List Int) (d : Nat) : ∀ (i : Nat) (m : Int), i + d = y.length → y.length ≤ 100 → ∃ r, Ev (fun k => space_Least.l0 k m y (y.length : Int) (i : Int)) r ∧ r ≤ m ∧ (∀ j, i ≤ j → j < y.length → r ≤ rd y (j : Int)) ∧ (r = m ∨ ∃ j, i ≤ j ∧ j < y.length ∧ r = rd y (j : Int)) := by
  induction d with
  | zero =>
    intro i m hi hy
    exact ⟨m, Ev.step (fun k => space_Least.l0.eq_2 ..) (ev_neg (by omega) (ev_now rfl)), Int.le_refl _, fun j h1 h2 => by omega, .inl rfl⟩
  | succ d ih =>
    intro i m hi hy
    obtain ⟨r, h1, h2, h3, h4⟩ := ih (i + 1) (mn m (rd y (i : Int))) (by omega) hy
    have e : wrap64 ((i : Int) + 1) = ((i + 1 : Nat) : Int) := by unfold wrap64; omega
    have hm : mn m (rd y (i : Int)) ≤ m ∧ mn m (rd y (i : Int)) ≤ rd y (i : Int) ∧ (mn m (rd y (i : Int)) = m ∨ mn m (rd y (i : Int)) = rd y (i : Int)) := by
      unfold mn
      split <;> omega
    refine ⟨r, Ev.step (fun k => space_Least.l0.eq_2 ..) (ev_pos (by omega) (ev_pos (by omega) (ev_pos (by omega) (by rw [e]; exact h1)))), by omega, fun j hj1 hj2 => ?_, ?_⟩
    · by_cases hj : j = i
      · subst hj; omega
      · exact h3 j (by omega) hj2
    · rcases h4 with h4 | ⟨j, h5, h6, h7⟩
      · rcases hm.2.2 with h8 | h8
        · exact .inl (h4.trans h8)
        · exact .inr ⟨i, Nat.le_refl _, by omega, h4.trans h8⟩
      · exact .inr ⟨j, by omega, h6, h7⟩
theorem lives_get : w07_lives.f = some true := rfl
theorem less_l1 (y : List Int) (m : Int) (hy : y.length ≤ 100) (hm : ∀ j, j < y.length → m ≤ rd y (j : Int)) (d : Nat) : ∀ (i : Nat) (x6 : Bool), i + d = y.length → (x6 = true ∨ ∃ j, i ≤ j ∧ j < y.length ∧ m = rd y (j : Int)) → Ev (fun k => w07_SpaceLess.l1 k y m x6 (i : Int)) true := by
  induction d with
  | zero =>
    intro i x6 hi h
    have hx : x6 = true := by
      rcases h with h | ⟨j, h1, h2, _⟩
      · exact h
      · omega
    subst hx
    exact Ev.step (fun k => w07_SpaceLess.l1.eq_2 ..) (ev_neg (by omega) (ev_true (ev_get lives_get (ev_now rfl))))
  | succ d ih =>
    intro i x6 hi h
    have e : wrap64 ((i : Int) + 1) = ((i + 1 : Nat) : Int) := by unfold wrap64; omega
    have hmi := hm i (by omega)
    have j4 : ∀ z : Bool, (z = true ∨ ∃ j, i + 1 ≤ j ∧ j < y.length ∧ m = rd y (j : Int)) → Ev (fun k => w07_SpaceLess.j4 k y m z (i : Int)) true := fun z hz => by
      refine Ev.step (fun k => w07_SpaceLess.j4.eq_2 ..) (ev_pos (by omega) (ev_pos (by omega) (ev_get (a := false) ?_ (ev_false (ev_pos (by omega) (ev_get (a := decide (rd y (i : Int) < rd y 0)) rfl (ev_neg ?_ ?_)))))))
      · unfold space_Less.f
        rw [decide_eq_false (by omega)]
      · simp
      · rw [e]
        exact ih (i + 1) z (by omega) hz
    cases hx : x6 with
    | true =>
      exact Ev.step (fun k => w07_SpaceLess.l1.eq_2 ..) (ev_pos (by omega) (ev_true (j4 true (.inl rfl))))
    | false =>
      refine Ev.step (fun k => w07_SpaceLess.l1.eq_2 ..) (ev_pos (by omega) (ev_false (ev_pos (by omega) (j4 _ ?_))))
      rcases h with h | ⟨j, h1, h2, h3⟩
      · rw [hx] at h
        cases h
      · by_cases hj : j = i
        · subst hj
          exact .inl (by rw [← h3]; simp)
        · exact .inr ⟨j, by omega, h2, h3⟩
theorem less_j1 (y : List Int) (hy : y.length ≤ 100) (hr : ∀ x ∈ y, x ≤ 2) : Ev (fun k => w07_SpaceLess.j1 k y) true := by
  obtain ⟨m, h1, h2, h3, h4⟩ := least_loop y y.length 0 2 (by omega) hy
  have hl : Ev (fun k => space_Least.f k y) m := h1
  have hloop : ∀ z : Bool, (z = true ∨ ∃ j, 0 ≤ j ∧ j < y.length ∧ m = rd y (j : Int)) → Ev (fun k => w07_SpaceLess.j2 k y m z) true := fun z hz =>
    Ev.step (fun k => w07_SpaceLess.j2.eq_2 ..) (less_l1 y m hy (fun j hj => h3 j (Nat.zero_le _) hj) y.length 0 z (by omega) hz)
  refine Ev.step (fun k => w07_SpaceLess.j1.eq_2 ..) (Ev.bind hl ?_)
  by_cases h0 : y.length = 0
  · refine ev_pos (by omega) (hloop _ (.inl ?_))
    rcases h4 with h4 | ⟨j, _, hj, _⟩
    · rw [h4]; rfl
    · omega
  · refine ev_neg (by omega) (hloop _ (.inr ?_))
    rcases h4 with h4 | ⟨j, hj0, hj, he⟩
    · have hz := hr _ (rd_nat (i := 0) (by omega : 0 < y.length))
      have h5 := h3 0 (Nat.le_refl _) (by omega)
      exact ⟨0, Nat.le_refl _, by omega, by omega⟩
    · exact ⟨j, hj0, hj, he⟩
theorem less_l0 (x0 : List Int) (hw : ∀ x ∈ x0, (Lit.int .i64 x).wf = true) (d : Nat) : ∀ (i : Nat) (acc : List Int), i + d = 10 → acc.length = i → (∀ x ∈ acc, x ≤ 2) → Ev (fun k => w07_SpaceLess.l0 k x0 acc (i : Int)) true := by
  induction d with
  | zero =>
    intro i acc hi ha hr
    have := less_j1 acc (by omega) hr
    by_cases h : (i : Int) < (x0.length : Int)
    · exact Ev.step (fun k => w07_SpaceLess.l0.eq_2 ..) (ev_pos h (ev_neg (by omega) this))
    · exact Ev.step (fun k => w07_SpaceLess.l0.eq_2 ..) (ev_neg h this)
  | succ d ih =>
    intro i acc hi ha hr
    by_cases h : (i : Int) < (x0.length : Int)
    · have e : wrap64 ((i : Int) + 1) = ((i + 1 : Nat) : Int) := by unfold wrap64; omega
      have hx := hw _ (rd_nat (y := x0) (i := i) (by omega))
      have hb : -9223372036854775808 ≤ rd x0 (i : Int) ∧ rd x0 (i : Int) ≤ 9223372036854775807 := by
        have h2 : IntKind.i64.min ≤ rd x0 (i : Int) ∧ rd x0 (i : Int) ≤ 9223372036854775807 := by simpa [Lit.wf] using hx
        exact ⟨by have h3 := h2.1; rw [show IntKind.i64.min = -9223372036854775808 from rfl] at h3; exact h3, h2.2⟩
      refine Ev.step (fun k => w07_SpaceLess.l0.eq_2 ..) (ev_pos h (ev_pos (by omega) (ev_pos (by omega) (ev_get (ar_eq _) (ev_pos (by omega) ?_)))))
      rw [e]
      refine ih (i + 1) _ (by omega) (by rw [List.length_append, ha]; rfl) (fun x hx => ?_)
      rcases List.mem_append.1 hx with hx | hx
      · exact hr x hx
      · rw [List.mem_singleton] at hx
        subst hx
        exact (ar_range hb.1 hb.2).2
    · exact Ev.step (fun k => w07_SpaceLess.l0.eq_2 ..) (ev_neg h (less_j1 acc (by omega) hr))
theorem SpaceLess : w07_SpaceLess.Pure := fun l0 _ _ hw => (less_l0 l0 hw 10 0 [] (by omega) rfl (fun x hx => by cases hx)).rounds
end Go.Proofs.YtjilnigmbnmlfaaDoor.Pure
