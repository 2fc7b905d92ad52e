/-
  CspTwice, as plain Lean.
-/
import Derived.Test.YtcpeecacoblbhaaPlI
import Derived.Test.YtcpeecacoblbhaaPLC11
namespace Go.Proofs.Ytcpeecacoblbhaa.P
open Go.RowKit Go.Proofs.YtcpeecacoblbhaaW.PrintWords Go.Proofs.YtcpeecacoblbhaaW.PrintLast Go.Proofs.YtcpeecacoblbhaaW.PrintMore
set_option linter.unusedVariables false
set_option linter.unusedSimpArgs false

theorem CspTwice_ev (a b : ByteArray) : Ev (fun k => abatislaw15_CspTwice.f k a b) true := by
  have h1 : abatisref01_Few.f a 60 = some (few a 60) := Few_eq a 60
  have h2 : abatisref01_Few.f b 60 = some (few b 60) := Few_eq b 60
  have s1 := few_size a 60
  have s2 := few_size b 60
  unfold abatislaw15_CspTwice.f
  generalize few a 60 = x at *
  generalize few b 60 = y at *
  have hsep : bytesOf (⟨#[59]⟩ : ByteArray) = [59] := rfl
  have hs59 : (⟨#[59]⟩ : ByteArray).size = 1 := rfl
  have z1 : ((x ++ (⟨#[59]⟩ : ByteArray)) ++ y).size ≤ 200 := by rw [ByteArray.size_append, ByteArray.size_append]; omega
  have z2 : ((((x ++ (⟨#[59]⟩ : ByteArray)) ++ y) ++ (⟨#[59]⟩ : ByteArray)) ++ x).size ≤ 300 := by rw [ByteArray.size_append, ByteArray.size_append]; omega
  have p1 := Parse_ev ((x ++ (⟨#[59]⟩ : ByteArray)) ++ y) (by omega)
  have p2 := Parse_ev ((((x ++ (⟨#[59]⟩ : ByteArray)) ++ y) ++ (⟨#[59]⟩ : ByteArray)) ++ x) (by omega)
  have p3 := Parse_ev x (by omega)
  obtain ⟨t, ht, _⟩ := fold_more (pieces y 59) (parseB x)
  have e1 : parseB ((x ++ (⟨#[59]⟩ : ByteArray)) ++ y) = parseB x ++ t := by
    unfold parseB
    rw [pieces_append _ _ _ _ hsep, List.foldl_append]
    exact ht
  have e2 : parseB ((((x ++ (⟨#[59]⟩ : ByteArray)) ++ y) ++ (⟨#[59]⟩ : ByteArray)) ++ x) = parseB ((x ++ (⟨#[59]⟩ : ByteArray)) ++ y) := by
    have h3 : parseB ((((x ++ (⟨#[59]⟩ : ByteArray)) ++ y) ++ (⟨#[59]⟩ : ByteArray)) ++ x) = (pieces x 59).foldl pStep (parseB ((x ++ (⟨#[59]⟩ : ByteArray)) ++ y)) := by
      unfold parseB
      rw [pieces_append ((x ++ (⟨#[59]⟩ : ByteArray)) ++ y) x _ _ hsep, List.foldl_append]
    rw [h3]
    refine fold_same _ _ (fun p hp => ?_)
    rw [e1]
    exact known_more _ _ _ (fold_known (pieces x 59) [] p hp)
  have q1 := parse_small ((x ++ (⟨#[59]⟩ : ByteArray)) ++ y) (by omega)
  have q3 := parse_small x (by omega)
  rw [e2] at p2
  generalize parseB ((x ++ (⟨#[59]⟩ : ByteArray)) ++ y) = one at *
  generalize parseB x = first at *
  have hle : first.length ≤ one.length := by rw [e1, List.length_append]; omega
  have htk : one.take first.length = first := by rw [e1]; simp
  have k1 : ∀ z ∈ one, z.f1.length ≤ 100000 := fun z hz => Nat.le_trans (q1.2 z hz) (by omega)
  have k3 : ∀ z ∈ first, z.f1.length ≤ 100000 := fun z hz => Nat.le_trans (q3.2 z hz) (by omega)
  refine ev_get h1 (ev_get h2 (ev_pos (by omega) (ev_pos ?_ (Ev.bind p1 (ev_pos ?_ (ev_pos ?_ (Ev.bind p2 (Ev.bind p3 (ev_neg (by omega) ?_)))))))))
  · rw [ByteArray.size_append]; omega
  · omega
  · rw [ByteArray.size_append]; omega
  · refine Ev.bind (as_ev one (by omega)) (Ev.bind (as_ev one (by omega)) (Ev.bind (sameAs_ev one (by omega) k1) (ev_true (ev_pos (by omega) (ev_pos (by omega) ?_)))))
    rw [Int.toNat_natCast, htk]
    exact Ev.bind (as_ev first (by omega)) (Ev.bind (as_ev first (by omega)) (Ev.bind (sameAs_ev first (by omega) k3) (ev_true (Ev.bind lives15_ev (Ev.now _)))))
end Go.Proofs.Ytcpeecacoblbhaa.P
