/-
  Texts of the proof, put together.
-/
import Derived.Test.YthjhbhgfckaklaaDoorM2
import Derived.Lib.RuneCount
import Derived.Laws.RangeAny
import Derived.Lib.OthersKept
section
namespace Go.Proofs.YthjhbhgfckaklaaDoor.P
open Go.RowKit Go.Proofs.YthjhbhgfckaklaaDoorW.PrintWords Go.Proofs.YthjhbhgfckaklaaDoorW.PrintLast Go.Proofs.YthjhbhgfckaklaaDoorW.PrintMore
set_option linter.unusedVariables false
set_option linter.unusedSimpArgs false
theorem toList_loop (bs : ByteArray) : ∀ (n i : Nat) (r : List UInt8), bs.size - i = n → ByteArray.toList.loop bs i r = r.reverse ++ bs.data.toList.drop i := by
 intro n
 induction n with
 | zero =>
  intro i r h
  unfold ByteArray.toList.loop
  rw [if_neg (by omega), List.drop_of_length_le (by rw [data_length]; omega)]
  simp
 | succ n ih =>
  intro i r h
  have hlt : i < bs.size := by omega
  unfold ByteArray.toList.loop
  rw [if_pos hlt, ih (i + 1) _ (by omega)]
  have hl : i < bs.data.toList.length := by rw [data_length]; exact hlt
  rw [List.drop_eq_getElem_cons hl]
  have : bs.get! i = bs.data.toList[i] := by
   have hs : i < bs.data.size := hlt
   show bs.data[i]! = _
   rw [getElem!_pos bs.data i hs, Array.getElem_toList]
  simp [this]
theorem toList_eq (bs : ByteArray) : bs.toList = bs.data.toList := by
 unfold ByteArray.toList
 rw [toList_loop bs _ 0 [] rfl]
 simp
theorem toList_inj {a b : ByteArray} : a.toList = b.toList ↔ a = b := by
 rw [toList_eq, toList_eq]
 constructor
 ·intro h
  cases a; cases b
  simp at h
  simp [h]
 ·rintro rfl; rfl
theorem toList_nil (a : ByteArray) : (a.toList == ([] : List UInt8)) = decide (a.size = 0) := by
 rw [toList_eq, Bool.eq_iff_iff, decide_eq_true_iff]
 have hl := data_length a
 cases hd : a.data.toList with
 | nil => rw [hd, List.length_nil] at hl; simp [← hl]
 | cons c l =>
  rw [hd, List.length_cons] at hl
  constructor
  ·intro h; simp at h
  ·intro h; omega
theorem bt_get (s : ByteArray) (j : Nat) (h : j < s.size) : bt s j = ((s[j]'h).toNat : Int) := by
 unfold bt
 rw [dif_pos (by simpa using h)]
 simp
theorem get_left (a b : ByteArray) (j : Nat) (h : j < a.size) : (a ++ b).get! j = a.get! j := by
 have e : (a ++ b).data = a.data ++ b.data := by simp
 show (a ++ b).data[j]! = a.data[j]!
 have h1 : j < a.data.size := h
 have h2 : j < (a.data ++ b.data).size := by rw [Array.size_append]; omega
 rw [e, getElem!_pos (a.data ++ b.data) j h2, getElem!_pos a.data j h1, Array.getElem_append_left]
theorem bt_bang (s : ByteArray) (j : Nat) (h : j < s.size) : bt s j = ((s.get! j).toNat : Int) := by
 rw [bt_get s j h]
 congr 2
 have hs : j < s.data.size := h
 show s.data[j] = s.data[j]!
 rw [getElem!_pos s.data j hs]
theorem bt_left (a b : ByteArray) (j : Nat) (h : j < a.size) : bt (a ++ b) j = bt a j := by
 rw [bt_bang _ _ (by rw [ByteArray.size_append]; omega), bt_bang _ _ h, get_left a b j h]
theorem bytesOf_getElem (s : ByteArray) (i : Nat) (h : i < s.size) : (bytesOf s)[i]? = some (bt s i) := by
 have hl : i < (bytesOf s).length := by rw [bytesOf_length]; exact h
 have := rd_bytesOf s i
 simp only [rd, Int.toNat_natCast, List.getD_eq_getElem?_getD, List.getElem?_eq_getElem hl, Option.getD_some] at this
 rw [List.getElem?_eq_getElem hl, this]
theorem bytesOf_take (s : ByteArray) (i : Nat) (h : i < s.size) : (bytesOf s).take (i + 1) = (bytesOf s).take i ++ [bt s i] := by
 rw [List.take_add_one, bytesOf_getElem s i h]; rfl
theorem bytesOf_range (s : ByteArray) : ∀ x ∈ bytesOf s, 0 ≤ x ∧ x ≤ 255 := by
 intro x hx
 simp only [bytesOf, List.mem_map] at hx
 obtain ⟨b, _, rfl⟩ := hx
 have := b.toNat_lt
 omega
theorem bytesOf_strOf (xs : List Int) (h : ∀ x ∈ xs, 0 ≤ x ∧ x ≤ 255) : bytesOf (strOfNums xs) = xs := by
 unfold bytesOf strOfNums
 simp only [List.map_map]
 conv => rhs; rw [← List.map_id xs]
 apply List.map_congr_left
 intro x hx
 have := h x hx
 simp
 omega
theorem size_strOf (xs : List Int) : (strOfNums xs).size = xs.length := by
 rw [← data_length]; simp [strOfNums]
theorem bytesOf_drop (s : ByteArray) (i : Nat) (h : i < s.size) : (bytesOf s).drop i = bt s i :: (bytesOf s).drop (i + 1) := by
 have hl : i < (bytesOf s).length := by rw [bytesOf_length]; exact h
 have := bytesOf_getElem s i h
 rw [List.getElem?_eq_getElem hl] at this
 rw [List.drop_eq_getElem_cons hl, Option.some.inj this]
theorem bytesOf_append (a b : ByteArray) : bytesOf (a ++ b) = bytesOf a ++ bytesOf b := by
 unfold bytesOf
 have e : (a ++ b).data = a.data ++ b.data := by simp
 rw [e, Array.toList_append, List.map_append]
theorem ev_pos {α : Type} {c : Prop} {inst : Decidable c} {f g : Nat → Option α} {r : α} (h : c) (k : Ev f r) : Ev (fun n => @ite _ c inst (f n) (g n)) r :=
 Ev.congr (fun n => if_pos h) k
theorem ev_neg {α : Type} {c : Prop} {inst : Decidable c} {f g : Nat → Option α} {r : α} (h : ¬ c) (k : Ev g r) : Ev (fun n => @ite _ c inst (f n) (g n)) r :=
 Ev.congr (fun n => if_neg h) k
theorem ev_get {α β : Type} {g : Option α} {f : Nat → α → Option β} {a : α} {r : β} (h : g = some a) (k : Ev (fun n => f n a) r) : Ev (fun n => g.bind (f n)) r :=
 Ev.congr (fun n => by rw [h]; rfl) k
theorem ev_now {α : Type} {r s : α} (h : r = s) : Ev (fun _ => some r) s := h ▸ Ev.now r
theorem ev_true {α : Type} {f g : Nat → Option α} {r : α} (k : Ev f r) : Ev (fun n => if true = true then f n else g n) r := Ev.congr (fun n => if_pos rfl) k
theorem ev_false {α : Type} {f g : Nat → Option α} {r : α} (k : Ev g r) : Ev (fun n => if false = true then f n else g n) r := Ev.congr (fun n => if_neg (by decide)) k
def lowB (c : Int) : Int := if 65 ≤ c ∧ c ≤ 90 then c + 32 else c
def text_Lower.f (a0 : ByteArray) : Option ByteArray := if a0.size ≤ 9223372036854775806 then some (strOfNums ((bytesOf a0).map lowB)) else none
def LowAt (a0 : ByteArray) (B k : Nat) (w : World) : Prop :=
 ∃ cs : Array Value, w.heap[B]? = some (.cells cs 5 (cs.size, cs.size + 1)) ∧ a0.size ≤ cs.size ∧ ∀ j, j < a0.size → cs[j]? = some (.int .u8 (if j < k then lowB (bt a0 j) else bt a0 j))
theorem lowAt_start (w : World) (s : ByteArray) : LowAt s w.heap.size 0 (Lib.bytesWorld w 5 s) := by
 refine ⟨Lib.bytesCells w 5 s, Lib.bytesWorld_at_new w _ s, ?_, fun j hj => ?_⟩
 ·simp only [Lib.bytesCells, Array.size_append, Array.size_map]
  have : s.data.size = s.size := rfl
  omega
 ·have hj' : j < s.data.size := hj
  have e : bt s (j : Int) = ((s.data[j]'hj').toNat : Int) := by
   unfold bt
   rw [dif_pos (by simpa using hj)]
   rfl
  simp only [Lib.bytesCells]
  rw [Array.getElem?_append_left (by simpa using hj')]
  simp [e]
  exact ⟨_, Array.getElem?_eq_getElem hj', rfl⟩
theorem LowAt.cell {s : ByteArray} {B k : Nat} {w : World} (h : LowAt s B k w) (hk : k < s.size) : w.cell? ⟨B, k, none⟩ = some (.int .u8 (bt s k)) := by
 obtain ⟨cs, hh, hs, hc⟩ := h
 have := hc k hk
 simp [World.cell?, hh, this]
theorem LowAt.free {s : ByteArray} {B k j : Nat} {w : World} (h : LowAt s B k w) (hj : j < s.size) : w.frozen? ⟨B, j, none⟩ = false := by
 obtain ⟨cs, hh, hs, hc⟩ := h
 simp [World.frozen?, hh]
 omega
theorem LowAt.same {s : ByteArray} {B k : Nat} {w : World} (h : LowAt s B k w) (hl : lowB (bt s k) = bt s k) : LowAt s B (k + 1) w := by
 obtain ⟨cs, hh, hs, hc⟩ := h
 refine ⟨cs, hh, hs, fun j hj => ?_⟩
 rw [hc j hj]
 by_cases e : j = k
 ·subst e; rw [if_neg (by omega), if_pos (by omega), hl]
 ·by_cases h1 : j < k
  ·rw [if_pos h1, if_pos (by omega)]
  ·rw [if_neg h1, if_neg (by omega)]
theorem LowAt.set {s : ByteArray} {B k : Nat} {w : World} (h : LowAt s B k w) (hk : k < s.size) (v : Int) (hv : v = lowB (bt s k)) : LowAt s B (k + 1) (w.setCell ⟨B, k, none⟩ (.int .u8 v)) := by
 obtain ⟨cs, hh, hs, hc⟩ := h
 refine ⟨cs.setIfInBounds k (.int .u8 v), ?_, by simpa using hs, fun j hj => ?_⟩
 ·simp [World.setCell, Array.getElem?_modify, hh]
 ·rw [Array.getElem?_setIfInBounds]
  by_cases e : k = j
  ·subst e; rw [if_pos rfl, if_pos (by omega), if_pos (by omega), hv]
  ·rw [if_neg e, hc j hj]
   by_cases h1 : j < k
   ·rw [if_pos h1, if_pos (by omega)]
   ·rw [if_neg h1, if_neg (by omega)]
theorem LowAt.drewN {s : ByteArray} {B k : Nat} {w : World} (h : LowAt s B k w) (n : Nat) : LowAt s B k (w.drewN n) := h
theorem LowAt.all {s : ByteArray} {B k : Nat} {w : World} (h : LowAt s B k w) (hk : s.size ≤ k) (cap : Nat) :
  (convert 71 9 (.slice (some ⟨B, 0, none⟩) s.size cap)).run Tryd.prog w = .ok (.string (strOfNums ((bytesOf s).map lowB))) w := by
 refine run_convert_bytes_arg w 71 5 Tryd.underlying71 Tryd.underlying5 B 0 s.size cap _ (by rw [List.length_map, bytesOf_length]) (fun i hi => ?_) 9 Tryd.underlying9
 obtain ⟨cs, hh, hs, hc⟩ := h
 have h1 := hc i hi
 rw [if_pos (by omega)] at h1
 have h2 : ((bytesOf s).map lowB).getD i 0 = lowB (bt s i) := by
  have hl : i < (bytesOf s).length := by rw [bytesOf_length]; exact hi
  rw [List.getD_eq_getElem?_getD, List.getElem?_map, List.getElem?_eq_getElem hl]
  have := rd_bytesOf s i
  simp only [rd, Int.toNat_natCast, List.getD_eq_getElem?_getD, List.getElem?_eq_getElem hl] at this
  simpa using congrArg lowB this
 rw [h2]
 simp [World.cell?, hh, h1]
theorem bytes_below' (w : World) (e : TypeId) (s : ByteArray) : Below w.heap.size w (Lib.bytesWorld w e s) := bytes_below (Below.refl _ _) (Nat.le_refl _) e s
theorem below_setB {B : Nat} {w W : World} (h : Below B w W) (k : Nat) (hk : B ≤ k) (j : Nat) (u : Value) : Below B w (W.setCell ⟨k, j, none⟩ u) := h.setCell (by simpa using hk) u
set_option maxHeartbeats 2000000 in
set_option maxRecDepth 100000 in
theorem text_Lower.calls (a0 : ByteArray) (r : ByteArray) (w : World) (h : text_Lower.f a0 = some r) :
  Calls Tryd.prog 72 #[.string a0] w fun e w' => e = .returned (.string r) ∧ Below w.heap.size w w' := by
 unfold text_Lower.f at h
 split at h
 case isFalse => exact absurd h (by simp)
 rename_i hs
 obtain rfl := Option.some.inj h
 clear h
 have hcv := fun (W : World) => Lib.run_convert_string_bytes (P := Tryd.prog) W 9 71 5 a0 Tryd.underlying9 Tryd.underlying71 Tryd.underlying5
 go_enter Tryd.func72, Tryd.ntmps72
 go_wp2
 clear hcv
 go_loopw [10] (fun i w' => ∃ k : Nat, i = .int .i64 k ∧ k ≤ a0.size ∧ LowAt a0 w.heap.size k w' ∧ Below w.heap.size w w') (fun i _ => a0.size - (intOf i).toNat)
 case atStart => exact ⟨0, rfl, by omega, lowAt_start w a0, bytes_below' w _ a0⟩
 case round =>
  obtain ⟨k, rfl, hk, hL, hB⟩ := hrel
  have HL := Aside0.mk hL
  have HB := Aside0.mk hB
  clear hL hB
  by_cases hlt : k < a0.size
  ·have hcell := HL.out.cell hlt
   have hfree := HL.out.free (j := k) hlt
   have hb := bt_range a0 k
   have hb0 := hb.1
   have hb1 := hb.2
   clear hb
   by_cases hu : 65 ≤ bt a0 k ∧ bt a0 k ≤ 90
   ·obtain ⟨hu0, hu1⟩ := hu
    have hup : text_upper.f (bt a0 k) = some true := by unfold text_upper.f; rw [if_pos hu0]; simp [hu1]
    have HU := Aside0.mk hup
    clear hup
    go_wp2_with (go_at_call 103; refine (text_upper.calls _ true _ HU.out).mono ?_; rintro e w' ⟨rfl, ⟨n, rfl⟩⟩)
    go_roundw
    case rel => exact ⟨k + 1, by go_num, by omega, (HL.out.drewN _).set hlt _ (by unfold lowB; rw [if_pos ⟨hu0, hu1⟩]; omega), below_setB (pw_below_drewN HB.out _) _ (Nat.le_refl _) _ _⟩
    case measure => simp [intOf]; omega
   ·have hup : text_upper.f (bt a0 k) = some false := by
     unfold text_upper.f
     by_cases h1 : bt a0 k ≥ 65
     ·rw [if_pos h1]; simp; omega
     ·rw [if_neg h1]
    have HU := Aside0.mk hup
    have HN := Aside0.mk hu
    clear hup hu
    go_wp2_with (go_at_call 103; refine (text_upper.calls _ false _ HU.out).mono ?_; rintro e w' ⟨rfl, ⟨n, rfl⟩⟩)
    go_roundw
    case rel => exact ⟨k + 1, by go_num, by omega, (HL.out.drewN _).same (by unfold lowB; rw [if_neg HN.out]), pw_below_drewN HB.out _⟩
    case measure => simp [intOf]; omega
  ·have hcv := fun cap => HL.out.all (by omega) cap
   go_wp2
   go_ret
   exact ⟨rfl, HB.out⟩
end Go.Proofs.YthjhbhgfckaklaaDoor.P
end
section
namespace Go.Proofs.YthjhbhgfckaklaaDoor.P
open Go.RowKit Go.Proofs.YthjhbhgfckaklaaDoorW.PrintWords Go.Proofs.YthjhbhgfckaklaaDoorW.PrintLast Go.Proofs.YthjhbhgfckaklaaDoorW.PrintMore
set_option linter.unusedVariables false
def EvP {α : Type} (f : Nat → Option α) (P : α → Prop) : Prop := ∃ r, Ev f r ∧ P r
theorem EvP.of {α : Type} {f : Nat → Option α} {P : α → Prop} {r : α} (h : Ev f r) (hp : P r) : EvP f P := ⟨r, h, hp⟩
theorem EvP.imp {α : Type} {f : Nat → Option α} {P Q : α → Prop} (h : EvP f P) (hi : ∀ r, P r → Q r) : EvP f Q := ⟨h.choose, h.choose_spec.1, hi _ h.choose_spec.2⟩
theorem evp_pos {α : Type} {c : Prop} {inst : Decidable c} {f g : Nat → Option α} {P : α → Prop} (h : c) (k : EvP f P) : EvP (fun n => @ite _ c inst (f n) (g n)) P := ⟨_, ev_pos h k.choose_spec.1, k.choose_spec.2⟩
theorem evp_neg {α : Type} {c : Prop} {inst : Decidable c} {f g : Nat → Option α} {P : α → Prop} (h : ¬ c) (k : EvP g P) : EvP (fun n => @ite _ c inst (f n) (g n)) P := ⟨_, ev_neg h k.choose_spec.1, k.choose_spec.2⟩
theorem evp_ite {α : Type} {c : Prop} {inst : Decidable c} {f g : Nat → Option α} {P : α → Prop} (h1 : c → EvP f P) (h2 : ¬ c → EvP g P) : EvP (fun n => @ite _ c inst (f n) (g n)) P := by
 by_cases h : c
 ·exact evp_pos h (h1 h)
 ·exact evp_neg h (h2 h)
theorem evp_get {α β : Type} {g : Option α} {f : Nat → α → Option β} {a : α} {P : β → Prop} (h : g = some a) (k : EvP (fun n => f n a) P) : EvP (fun n => g.bind (f n)) P := ⟨_, ev_get h k.choose_spec.1, k.choose_spec.2⟩
theorem evp_now {α : Type} {r : α} {P : α → Prop} (h : P r) : EvP (fun _ => some r) P := ⟨r, Ev.now r, h⟩
theorem evp_bind {α β : Type} {f : Nat → Option α} {g : Nat → α → Option β} {Q : α → Prop} {P : β → Prop} (h : EvP f Q) (k : ∀ a, Q a → EvP (fun n => g n a) P) : EvP (fun n => (f n).bind (g n)) P := by
 obtain ⟨a, ha, hq⟩ := h
 obtain ⟨b, hb, hp⟩ := k a hq
 exact ⟨b, Ev.bind ha hb, hp⟩
theorem evp_step {α : Type} {f g : Nat → Option α} {P : α → Prop} (h : ∀ k, f (k + 1) = g k) (k : EvP g P) : EvP f P := ⟨_, Ev.step h k.choose_spec.1, k.choose_spec.2⟩
end Go.Proofs.YthjhbhgfckaklaaDoor.P
end
