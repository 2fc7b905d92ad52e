/-
  One world behind another: found by instances, so that a printed walk need not tell it.
-/
import Derived.Test.YthdognlkacjkhaaGreatDoorPb
namespace Go.Proofs.YthdognlkacjkhaaGreatDoor.P
open Go.RowKit Go.Proofs.YthdognlkacjkhaaGreatDoorW.PrintWords Go.Proofs.YthdognlkacjkhaaGreatDoorW.PrintLast Go.Proofs.YthdognlkacjkhaaGreatDoorW.PrintMore
set_option linter.unusedVariables false
class Later (a b : World) : Prop where
  bel : Below a.heap.size a b
instance later_refl (a : World) : Later a a := ⟨Below.refl _ _⟩
instance later_alloc (a b : World) (o : Obj) [h : Later a b] : Later a (b.alloc o) := ⟨below_alloc h.bel o⟩
instance later_drew (a b : World) [h : Later a b] : Later a b.drew := ⟨below_drew1 h.bel⟩
instance later_drewN (a b : World) (n : Nat) [h : Later a b] : Later a (b.drewN n) := ⟨pw_below_drewN h.bel n⟩
theorem bel_later {w a b : World} [k : Later a b] (h : Below w.heap.size w a) : Below w.heap.size w b := below_step h k.bel
theorem blk_later {a b : World} {g : Nat} {o : Obj} [k : Later a b] (h : a.heap[g]? = some o) : b.heap[g]? = some o := blk_below h k.bel
section
variable {α : Type} {d : Kd α} {e base : Nat} {ok : Nat → Prop} {v : Value} {xs : List α} {a b : World}
end
/-- Cells of one block stored one behind the other: what the block holds then. -/
class Sets (a b : World) (g : Nat) (cs : Array Value) (ds : outParam (Array Value)) : Prop where
  out : ∀ (t : TypeId), a.heap[g]? = some (.cells cs t (0, 0)) → b.heap[g]? = some (.cells ds t (0, 0))
instance sets_refl (a : World) (g : Nat) (cs : Array Value) : Sets a a g cs cs := ⟨fun _ h => h⟩
instance sets_alloc (a b : World) (g : Nat) (cs ds : Array Value) (o : Obj) [h : Sets a b g cs ds] : Sets a (b.alloc o) g cs ds := ⟨fun t k => blk_alloc (h.out t k) o⟩
instance sets_drew (a b : World) (g : Nat) (cs ds : Array Value) [h : Sets a b g cs ds] : Sets a b.drew g cs ds := ⟨fun t k => blk_drew (h.out t k)⟩
instance sets_drewN (a b : World) (g n : Nat) (cs ds : Array Value) [h : Sets a b g cs ds] : Sets a (b.drewN n) g cs ds := ⟨fun t k => blk_drewN (h.out t k) n⟩
instance sets_cell (a b : World) (g j : Nat) (v : Value) (cs ds : Array Value) [h : Sets a b g cs ds] : Sets a (b.setCell ⟨g, j, none⟩ v) g cs (ds.setIfInBounds j v) := ⟨fun t k => blk_put (h.out t k) j v rfl⟩
/-- Cells of one block stored: what lies in others stands. -/
class Fars (a b : World) (g : Nat) : Prop where
  V : ∀ {α : Type} (d : Kd α) (e base : Nat) (ok : Nat → Prop) (v : Value) (xs : List α), (∀ k, ok k → k ≠ g) → Kd.V d e a base ok v xs → Kd.V d e b base ok v xs
  R : ∀ {α : Type} (d : Kd α) (e base : Nat) (ok : Nat → Prop) (v : Value) (xs : List α), (∀ k, ok k → k ≠ g) → Kd.R d e a base ok v xs → Kd.R d e b base ok v xs
instance fars_refl (a : World) (g : Nat) : Fars a a g := ⟨fun _ _ _ _ _ _ _ h => h, fun _ _ _ _ _ _ _ h => h⟩
instance fars_alloc (a b : World) (g : Nat) (o : Obj) [f : Fars a b g] : Fars a (b.alloc o) g := ⟨fun d e base ok v xs k h => Kd.V_alloc (f.V d e base ok v xs k h) o, fun d e base ok v xs k h => Kd.R_alloc (f.R d e base ok v xs k h) o⟩
instance fars_drew (a b : World) (g : Nat) [f : Fars a b g] : Fars a b.drew g := ⟨fun d e base ok v xs k h => Kd.V_drew (f.V d e base ok v xs k h), fun d e base ok v xs k h => Kd.R_drew (f.R d e base ok v xs k h)⟩
instance fars_drewN (a b : World) (g n : Nat) [f : Fars a b g] : Fars a (b.drewN n) g := ⟨fun d e base ok v xs k h => Kd.V_drewN (f.V d e base ok v xs k h) n, fun d e base ok v xs k h => Kd.R_drewN (f.R d e base ok v xs k h) n⟩
instance fars_cell (a b : World) (g j : Nat) (u : Value) [f : Fars a b g] : Fars a (b.setCell ⟨g, j, none⟩ u) g := ⟨fun d e base ok v xs k h => Kd.V_far (p := ⟨g, j, none⟩) (f.V d e base ok v xs k h) k u, fun d e base ok v xs k h => Kd.R_far (p := ⟨g, j, none⟩) (f.R d e base ok v xs k h) k u⟩
section
variable {α : Type} {d : Kd α} {e base : Nat} {ok : Nat → Prop} {v : Value} {xs : List α} {a b : World}
end
end Go.Proofs.YthdognlkacjkhaaGreatDoor.P
