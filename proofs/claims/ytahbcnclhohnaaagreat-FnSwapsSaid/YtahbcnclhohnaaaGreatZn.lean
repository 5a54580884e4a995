/- Several small texts in one: Uniform, Bits. -/
import Derived.Test.YtahbcnclhohnaaaGreatZm
import Derived.Test.YtahbcnclhohnaaaGreatZa
namespace Go.Proofs.YtahbcnclhohnaaaGreat

section
open Go.RowKit

/-- The results of a function on a stream, off the model's answer: value, seed, position, whether there is one. -/
def oV : Option (Int × Int) → Int
  | some (v, _) => v
  | none => 0
def oA {α : Type} : Option (α × Int) → Int
  | some (_, a) => a
  | none => 0
def oS {α : Type} (s : Int) : Option (α × Int) → Int
  | some _ => s
  | none => 0
def oB {α : Type} : Option (α × Int) → Bool
  | some _ => true
  | none => false

theorem trip_yes {s v a : Int} {R : Option (Int × Int)} (h : R = some (v, a)) : Ending.returned (.tuple #[.int .i64 v, .agg #[.int .i64 s, .int .i64 a], .bool true]) = .returned (.tuple #[.int .i64 (oV R), .agg #[.int .i64 (oS s R), .int .i64 (oA R)], .bool (oB R)]) := by subst h; rfl
theorem trip_no {s : Int} {R : Option (Int × Int)} (h : R = none) : Ending.returned (.tuple #[.int .i64 0, .agg #[.int .i64 0, .int .i64 0], .bool false]) = .returned (.tuple #[.int .i64 (oV R), .agg #[.int .i64 (oS s R), .int .i64 (oA R)], .bool (oB R)]) := by subst h; rfl

set_option maxHeartbeats 400000 in
theorem kOpen_any (s a : Int) (w : World) :
    Calls Tryz.prog 32 #[.agg #[.int .i64 s, .int .i64 a]] w fun e w' => ∃ g, e = .returned (.pointer (some ⟨g, 0, none⟩)) ∧ RdrAt w' g s a true ∧ w.heap.size ≤ g ∧ Below w.heap.size w w' := by
  have hx := box_two w #[.int .i64 s, .int .i64 a] #[.int .i64 s, .int .i64 a, .bool true] 61 73
  have H := Lib.hid hx
  clear hx
  go_enter Tryz.func32, Tryz.ntmps32
  go_wp2
  go_ret
  exact ⟨w.heap.size + 1, rfl, H.out.2.2, by omega, H.out.1⟩

/-- UniformBelow's answer. -/
def uniR (s a n : Int) : Option (Int × Int) := if streamB s a = true ∧ inR n 1 1000000000 = true then belowM s n a else none
theorem uniR_1 {s a n : Int} (h : streamB s a = false) : uniR s a n = none := by unfold uniR; rw [if_neg (by simp [h])]
theorem uniR_2 {s a n : Int} (h : inR n 1 1000000000 = false) : uniR s a n = none := by unfold uniR; rw [if_neg (by simp [h])]
theorem uniR_3 {s a n : Int} (h1 : streamB s a = true) (h : inR n 1 1000000000 = true) : uniR s a n = belowM s n a := by unfold uniR; rw [if_pos ⟨h1, h⟩]
theorem streamB_of {s a : Int} (h : streamB s a = true) : 0 ≤ a ∧ a ≤ 1000000 := by
  simp only [streamB, Bool.and_eq_true] at h
  exact inR_of h.2
end

section
open Go.RowKit

/-- BitsFrom's answer. -/
def bitsR (s a n : Int) : Option (List Int × Int) :=
  if streamB s a = true ∧ inR n 0 200 = true then (if a + n ≤ 1000000 then some (tabl n.toNat fun i => bitV s (a + i), a + n) else none) else none
theorem bitsR_1 {s a n : Int} (h : streamB s a = false) : bitsR s a n = none := by unfold bitsR; rw [if_neg (by simp [h])]
theorem bitsR_2 {s a n : Int} (h : inR n 0 200 = false) : bitsR s a n = none := by unfold bitsR; rw [if_neg (by simp [h])]
theorem bitsR_3 {s a n : Int} (h1 : streamB s a = true) (h : inR n 0 200 = true) (h3 : 1000000 < a + n) : bitsR s a n = none := by unfold bitsR; rw [if_pos ⟨h1, h⟩, if_neg (by omega)]
theorem bitsR_4 {s a n : Int} (h1 : streamB s a = true) (h : inR n 0 200 = true) (h3 : a + n ≤ 1000000) : bitsR s a n = some (tabl n.toNat fun i => bitV s (a + i), a + n) := by unfold bitsR; rw [if_pos ⟨h1, h⟩, if_pos h3]
/-- The list of an answer. -/
def oL : Option (List Int × Int) → List Int
  | some (l, _) => l
  | none => []
theorem slip_yes {s a : Int} {l : List Int} {R : Option (List Int × Int)} {A : Option Addr} {n c : Nat} (h : R = some (l, a)) (hn : n = l.length) : Ending.returned (.tuple #[.slice A n c, .agg #[.int .i64 s, .int .i64 a], .bool true]) = .returned (.tuple #[.slice A (oL R).length c, .agg #[.int .i64 (oS s R), .int .i64 (oA R)], .bool (oB R)]) := by subst h; subst hn; rfl
theorem slip_no {s : Int} {R : Option (List Int × Int)} (h : R = none) : Ending.returned (.tuple #[.slice none 0 0, .agg #[.int .i64 0, .int .i64 0], .bool false]) = .returned (.tuple #[.slice none (oL R).length 0, .agg #[.int .i64 (oS s R), .int .i64 (oA R)], .bool (oB R)]) := by subst h; rfl
theorem StrAt.far {w : World} {g : Nat} {s a : Int} (h : StrAt w g s a) {p : Addr} (hp : g ≠ p.block) (v : Value) : StrAt (w.setCell p v) g s a := (Below.heap_setCell w p v g hp).trans h
theorem RdrAt.far {w : World} {g : Nat} {s a : Int} {ok : Bool} (h : RdrAt w g s a ok) {p : Addr} (hp : g ≠ p.block) (v : Value) : RdrAt (w.setCell p v) g s a ok := (Below.heap_setCell w p v g hp).trans h
theorem box_far {w : World} {g : Nat} {o : Obj} (h : w.heap[g]? = some o) {p : Addr} (hp : g ≠ p.block) (v : Value) : (w.setCell p v).heap[g]? = some o := (Below.heap_setCell w p v g hp).trans h
end
end Go.Proofs.YtahbcnclhohnaaaGreat
