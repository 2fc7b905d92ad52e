/-
  Plain laws, put together by mkpl.py.
-/
import Derived.Test.YthjhbhgfckaklaaDoorPhE
namespace Go.Proofs.YthjhbhgfckaklaaDoor.P
open Go.RowKit Go.Proofs.YthjhbhgfckaklaaDoorW.PrintWords Go.Proofs.YthjhbhgfckaklaaDoorW.PrintLast Go.Proofs.YthjhbhgfckaklaaDoorW.PrintMore
set_option linter.unusedVariables false
set_option linter.unusedSimpArgs false

def Hs (l : List S25) : Prop := ∀ h ∈ l, h.f0.size ≤ 1000 ∧ h.f1.size ≤ 1000
theorem Hs.tail {h : S25} {l : List S25} (hh : Hs (h :: l)) : Hs l := fun x hx => hh x (List.mem_cons_of_mem _ hx)
/-! ### lines -/
def lineB (h : S25) : ByteArray := h.f0 ++ (⟨#[58, 32]⟩ : ByteArray) ++ h.f1 ++ (⟨#[13, 10]⟩ : ByteArray)
def linesB : List S25 → ByteArray
  | [] => ⟨#[]⟩
  | h :: l => lineB h ++ linesB l
theorem linesB_snoc : ∀ (l : List S25) (h : S25), linesB (l ++ [h]) = linesB l ++ lineB h
  | [], h => by
    show lineB h ++ (⟨#[]⟩ : ByteArray) = (⟨#[]⟩ : ByteArray) ++ lineB h
    apply ByteArray.ext
    simp
  | x :: l, h => by
    show lineB x ++ linesB (l ++ [h]) = lineB x ++ linesB l ++ lineB h
    rw [linesB_snoc l h, ByteArray.append_assoc]
def smallH (h : S25) : Bool := decide (h.f0.size ≤ 100000) && decide (h.f1.size ≤ 100000)
theorem lineB_size (h : S25) (hs : smallH h = true) : (lineB h).size ≤ 200004 := by
  unfold smallH at hs
  simp only [Bool.and_eq_true, decide_eq_true_iff] at hs
  unfold lineB
  rw [ByteArray.size_append, ByteArray.size_append, ByteArray.size_append]
  have z2 : (⟨#[58, 32]⟩ : ByteArray).size = 2 := rfl
  have z3 : (⟨#[13, 10]⟩ : ByteArray).size = 2 := rfl
  omega
theorem linesB_size : ∀ l : List S25, l.all smallH = true → (linesB l).size ≤ 200004 * l.length
  | [], _ => Nat.zero_le _
  | h :: l, hs => by
    rw [List.all_cons, Bool.and_eq_true] at hs
    have h1 := lineB_size h hs.1
    have h2 := linesB_size l hs.2
    show (lineB h ++ linesB l).size ≤ _
    rw [ByteArray.size_append, List.length_cons]
    omega
theorem all_take (l : List S25) (i : Nat) (h : l.all smallH = true) : (l.take i).all smallH = true := by
  rw [List.all_eq_true] at h ⊢
  exact fun x hx => h x (List.mem_of_mem_take hx)
/-! ### texts -/
theorem hs_small (l : List S25) (hh : Hs l) : l.all smallH = true := by
  rw [List.all_eq_true]
  intro x hx
  have := hh x hx
  unfold smallH
  rw [decide_eq_true (by omega), decide_eq_true (by omega)]
  rfl
def crlf : ByteArray := ⟨#[13, 10]⟩
theorem refLines_loop (l : List S25) (hl : l.length ≤ 1000) (hh : Hs l) (d : Nat) : ∀ i : Nat, i + d = l.length → Ev (fun k => abatisref14_Lines.l0 k l (linesB (l.take i)) (i : Int)) (linesB l ++ crlf) := by
  induction d with
  | zero =>
    intro i hi
    have hz := linesB_size l (hs_small l hh)
    rw [List.take_of_length_le (by omega)]
    exact Ev.step (fun k => abatisref14_Lines.l0.eq_2 ..) (ev_neg (by omega) (ev_pos (by omega) (ev_now rfl)))
  | succ d ih =>
    intro i hi
    have hlt : i < l.length := by omega
    have e : wrap64 ((i : Int) + 1) = ((i + 1 : Nat) : Int) := by unfold wrap64; omega
    have hz := linesB_size (l.take i) (all_take l i (hs_small l hh))
    rw [List.length_take] at hz
    have hs := hh _ (List.getElem_mem hlt)
    have z2 : (⟨#[58, 32]⟩ : ByteArray).size = 2 := rfl
    have hn := ih (i + 1) (by omega)
    have hnext : linesB (l.take (i + 1)) = linesB (l.take i) ++ l[i].f0 ++ (⟨#[58, 32]⟩ : ByteArray) ++ l[i].f1 ++ (⟨#[13, 10]⟩ : ByteArray) := by
      rw [List.take_add_one, List.getElem?_eq_getElem hlt]
      show linesB (l.take i ++ [l[i]]) = _
      rw [linesB_snoc]
      unfold lineB
      simp only [ByteArray.append_assoc]
    rw [hnext] at hn
    refine Ev.step (fun k => abatisref14_Lines.l0.eq_2 ..) (ev_pos (by omega) (ev_pos (by omega) ?_))
    rw [rdH_at l i hlt, e]
    refine ev_pos (by omega) (ev_pos (by rw [ByteArray.size_append]; omega) (ev_pos (by rw [ByteArray.size_append, ByteArray.size_append]; omega) (ev_pos (by rw [ByteArray.size_append, ByteArray.size_append, ByteArray.size_append]; omega) hn)))
theorem refLines_ev (l : List S25) (hl : l.length ≤ 1000) (hh : Hs l) : Ev (fun k => abatisref14_Lines.f k l) (linesB l ++ crlf) := refLines_loop l hl hh l.length 0 (by omega)
end Go.Proofs.YthjhbhgfckaklaaDoor.P
