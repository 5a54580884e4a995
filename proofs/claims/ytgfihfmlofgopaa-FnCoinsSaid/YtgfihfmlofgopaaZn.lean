/- Functions on streams: opening a reader, handing back, UniformBelow. -/
import Derived.Test.YtgfihfmlofgopaaZm
namespace Go.Proofs.Ytgfihfmlofgopaa
open Go.RowKit

/-- The results of a function on a stream, off the model's answer: value, seed, position, whether there is one. -/
def oV : Option (Int × Int) → Int
  | some (v, _) => v
  | none => 0
def oA {α : Type} : Option (α × Int) → Int
  | some (_, a) => a
  | none => 0
def oS {α : Type} (s : Int) : Option (α × Int) → Int
  | some _ => s
  | none => 0
def oB {α : Type} : Option (α × Int) → Bool
  | some _ => true
  | none => false

theorem trip_yes {s v a : Int} {R : Option (Int × Int)} (h : R = some (v, a)) : Ending.returned (.tuple #[.int .i64 v, .agg #[.int .i64 s, .int .i64 a], .bool true]) = .returned (.tuple #[.int .i64 (oV R), .agg #[.int .i64 (oS s R), .int .i64 (oA R)], .bool (oB R)]) := by subst h; rfl
theorem trip_no {s : Int} {R : Option (Int × Int)} (h : R = none) : Ending.returned (.tuple #[.int .i64 0, .agg #[.int .i64 0, .int .i64 0], .bool false]) = .returned (.tuple #[.int .i64 (oV R), .agg #[.int .i64 (oS s R), .int .i64 (oA R)], .bool (oB R)]) := by subst h; rfl

set_option maxHeartbeats 400000 in
theorem kOpen_any (s a : Int) (w : World) :
    Calls Try.prog 30 #[.agg #[.int .i64 s, .int .i64 a]] w fun e w' => ∃ g, e = .returned (.pointer (some ⟨g, 0, none⟩)) ∧ RdrAt w' g s a true ∧ w.heap.size ≤ g ∧ Below w.heap.size w w' := by
  have hx := box_two w #[.int .i64 s, .int .i64 a] #[.int .i64 s, .int .i64 a, .bool true] 25 80
  have H := Lib.hid hx
  clear hx
  go_enter Try.func30, Try.ntmps30
  go_wp2
  go_ret
  exact ⟨w.heap.size + 1, rfl, H.out.2.2, by omega, H.out.1⟩

set_option maxHeartbeats 400000 in
theorem kNumber_yes (g : Nat) (s a n : Int) (w : World) (h : RdrAt w g s a true) :
    Calls Try.prog 47 #[.int .i64 n, .pointer (some ⟨g, 0, none⟩)] w fun e w' => e = .returned (.tuple #[.int .i64 n, .agg #[.int .i64 s, .int .i64 a], .bool true]) ∧ Below w.heap.size w w' := by
  have hr := h.below (below_new w (.cells #[.int .i64 0, .int .i64 0] 25))
  have c0 := box_cell hr 0 _ rfl
  have c1 := box_cell hr 1 _ rfl
  have c2 := box_cell hr 2 _ rfl
  go_enter Try.func47, Try.ntmps47
  go_wp2
  go_region
  all_goals (try go_wp2)
  all_goals refine bodyPost_ret (v := .tuple #[.int .i64 n, .agg #[.int .i64 s, .int .i64 a], .bool true]) (by simp [results, Try.results47, go_sem]) rfl ⟨rfl, ?_⟩
  all_goals first | exact below_new _ _ | exact (below_new _ _).drew | exact below_drewN (below_new _ _) _

set_option maxHeartbeats 400000 in
theorem kNumber_no (g : Nat) (s a n : Int) (w : World) (h : RdrAt w g s a false) :
    Calls Try.prog 47 #[.int .i64 n, .pointer (some ⟨g, 0, none⟩)] w fun e w' => e = .returned (.tuple #[.int .i64 0, .agg #[.int .i64 0, .int .i64 0], .bool false]) ∧ Below w.heap.size w w' := by
  have hr := h.below (below_new w (.cells #[.int .i64 0, .int .i64 0] 25))
  have c2 := box_cell hr 2 _ rfl
  go_enter Try.func47, Try.ntmps47
  go_wp2
  refine bodyPost_ret (v := .tuple #[.int .i64 0, .agg #[.int .i64 0, .int .i64 0], .bool false]) (by simp [results, Try.results47, go_sem]) rfl ⟨rfl, ?_⟩
  exact below_new _ _

/-- UniformBelow's answer. -/
def uniR (s a n : Int) : Option (Int × Int) := if streamB s a = true ∧ inR n 1 1000000000 = true then belowM s n a else none
theorem uniR_1 {s a n : Int} (h : streamB s a = false) : uniR s a n = none := by unfold uniR; rw [if_neg (by simp [h])]
theorem uniR_2 {s a n : Int} (h : inR n 1 1000000000 = false) : uniR s a n = none := by unfold uniR; rw [if_neg (by simp [h])]
theorem uniR_3 {s a n : Int} (h1 : streamB s a = true) (h : inR n 1 1000000000 = true) : uniR s a n = belowM s n a := by unfold uniR; rw [if_pos ⟨h1, h⟩]
theorem streamB_of {s a : Int} (h : streamB s a = true) : 0 ≤ a ∧ a ≤ 1000000 := by
  simp only [streamB, Bool.and_eq_true] at h
  exact inR_of h.2

end Go.Proofs.Ytgfihfmlofgopaa
