/- Functions on streams: opening a reader, handing back, UniformBelow. -/
import Derived.Test.YtcjmapdeopffcaaZm
namespace Go.Proofs.Ytcjmapdeopffcaa
open Go.RowKit

/-- The results of a function on a stream, off the model's answer: value, seed, position, whether there is one. -/
def oV : Option (Int × Int) → Int
  | some (v, _) => v
  | none => 0
def oA {α : Type} : Option (α × Int) → Int
  | some (_, a) => a
  | none => 0
def oS {α : Type} (s : Int) : Option (α × Int) → Int
  | some _ => s
  | none => 0
def oB {α : Type} : Option (α × Int) → Bool
  | some _ => true
  | none => false

theorem trip_yes {s v a : Int} {R : Option (Int × Int)} (h : R = some (v, a)) : Ending.returned (.tuple #[.int .i64 v, .agg #[.int .i64 s, .int .i64 a], .bool true]) = .returned (.tuple #[.int .i64 (oV R), .agg #[.int .i64 (oS s R), .int .i64 (oA R)], .bool (oB R)]) := by subst h; rfl
theorem trip_no {s : Int} {R : Option (Int × Int)} (h : R = none) : Ending.returned (.tuple #[.int .i64 0, .agg #[.int .i64 0, .int .i64 0], .bool false]) = .returned (.tuple #[.int .i64 (oV R), .agg #[.int .i64 (oS s R), .int .i64 (oA R)], .bool (oB R)]) := by subst h; rfl

set_option maxHeartbeats 400000 in
theorem kOpen_any (s a : Int) (w : World) :
    Calls Try.prog 27 #[.agg #[.int .i64 s, .int .i64 a]] w fun e w' => ∃ g, e = .returned (.pointer (some ⟨g, 0, none⟩)) ∧ RdrAt w' g s a true ∧ w.heap.size ≤ g ∧ Below w.heap.size w w' := by
  have hx := box_two w #[.int .i64 s, .int .i64 a] #[.int .i64 s, .int .i64 a, .bool true] 52 62
  have H := Lib.hid hx
  clear hx
  go_enter Try.func27, Try.ntmps27
  go_wp2
  go_ret
  exact ⟨w.heap.size + 1, rfl, H.out.2.2, by omega, H.out.1⟩

/-- UniformBelow's answer. -/
def uniR (s a n : Int) : Option (Int × Int) := if streamB s a = true ∧ inR n 1 1000000000 = true then belowM s n a else none
theorem uniR_1 {s a n : Int} (h : streamB s a = false) : uniR s a n = none := by unfold uniR; rw [if_neg (by simp [h])]
theorem uniR_2 {s a n : Int} (h : inR n 1 1000000000 = false) : uniR s a n = none := by unfold uniR; rw [if_neg (by simp [h])]
theorem uniR_3 {s a n : Int} (h1 : streamB s a = true) (h : inR n 1 1000000000 = true) : uniR s a n = belowM s n a := by unfold uniR; rw [if_pos ⟨h1, h⟩]
theorem streamB_of {s a : Int} (h : streamB s a = true) : 0 ≤ a ∧ a ≤ 1000000 := by
  simp only [streamB, Bool.and_eq_true] at h
  exact inR_of h.2

set_option maxHeartbeats 800000 in
theorem implUniformBelow_law (s a n : Int) (w : World) :
    Calls Try.prog 41 #[.agg #[.int .i64 s, .int .i64 a], .int .i64 n] w fun e w' => e = .returned (.tuple #[.int .i64 (oV (uniR s a n)), .agg #[.int .i64 (oS s (uniR s a n)), .int .i64 (oA (uniR s a n))], .bool (oB (uniR s a n))]) ∧ Below w.heap.size w w' := by
  obtain ⟨b0, x2, x5⟩ := box_two w #[.int .i64 s, .int .i64 a] #[.int .i64 0, .int .i64 0] 52 52
  go_enter Try.func41, Try.ntmps41
  go_wp2_with fail
  generalize (w.alloc (.cells #[.int .i64 s, .int .i64 a] 52)).alloc (.cells #[.int .i64 0, .int .i64 0] 52) = w0 at *
  refine (implIsStream_any _ _ _).mono ?_
  rintro e w1 ⟨rfl, b1⟩
  replace x2 := box_below x2 b1
  replace x5 := box_below x5 b1
  replace b1 := b0.trans (b1.mono b0.size)
  clear b0
  have c0 := box_cell x2 0 _ rfl
  have c1 := box_cell x2 1 _ rfl
  have d0 := box_cell x5 0 _ rfl
  have d1 := box_cell x5 1 _ rfl
  have f0 := box_free x5 0
  have f1 := box_free x5 1
  cases hB : streamB s a
  · have R := Lib.hid (uniR_1 (n := n) hB)
    clear hB
    have y5 := store_two x5 (.int .i64 0) (.int .i64 0)
    have e0 := box_cell y5 0 _ rfl
    have e1 := box_cell y5 1 _ rfl
    go_wp2
    refine bodyPost_ret (v := .tuple #[.int .i64 0, .agg #[.int .i64 0, .int .i64 0], .bool false]) (by simp [results, Try.results41, go_sem, e0, e1]) rfl ⟨trip_no R.out, below_two b1 (by omega)⟩
  · by_cases hn : 1 ≤ n ∧ n ≤ 1000000000
    · have hN : inR n 1 1000000000 = true := inR_yes hn.1 hn.2
      have R := Lib.hid (uniR_3 hB hN)
      have ha := streamB_of hB
      have h5 := lt_of_block x5
      have hs1 := b1.size
      clear hB hN c0 c1 d0 d1 f0 f1
      go_wp2_with fail
      refine (below_any w.heap.size s a n w1 x2 ha.1 ha.2 hn.1 hn.2).mono ?_
      rintro e w4 ⟨hyes, hno, hc⟩
      replace x5 := box_chg x5 hc (.inr (by omega))
      have b4 := hc.below b1 (by omega) b1.size
      have d0 := box_cell x5 0 _ rfl
      have d1 := box_cell x5 1 _ rfl
      have f0 := box_free x5 0
      have f1 := box_free x5 1
      clear b1 hc x2
      cases hM : belowM s n a with
      | none =>
        obtain ⟨z, a2, rfl, hr2⟩ := hno hM
        replace R := Lib.hid (R.out.trans hM)
        have y5 := store_two x5 (.int .i64 0) (.int .i64 0)
        have e0 := box_cell y5 0 _ rfl
        have e1 := box_cell y5 1 _ rfl
        clear hyes hno hM
        go_wp2
        refine bodyPost_ret (v := .tuple #[.int .i64 0, .agg #[.int .i64 0, .int .i64 0], .bool false]) (by simp [results, Try.results41, go_sem, e0, e1]) rfl ⟨trip_no R.out, below_two b4 (by omega)⟩
      | some p =>
        obtain ⟨v, a2⟩ := p
        obtain ⟨rfl, hr2⟩ := hyes v a2 hM
        have E := Lib.hid (R.out.trans hM)
        have c0 := box_cell hr2 0 _ rfl
        have c1 := box_cell hr2 1 _ rfl
        clear hyes hno hM R
        go_wp2
        have y5 := store_two x5 (.int .i64 s) (.int .i64 a2)
        have e0 := box_cell y5 0 _ rfl
        have e1 := box_cell y5 1 _ rfl
        go_region
        all_goals (try go_wp2)
        all_goals refine bodyPost_ret (v := .tuple #[.int .i64 v, .agg #[.int .i64 s, .int .i64 a2], .bool true]) (by simp [results, Try.results41, go_sem, e0, e1]) rfl ⟨trip_yes E.out, (below_two b4 (by omega)).drew⟩
    · have hN : inR n 1 1000000000 = false := inR_no (by omega)
      have R := Lib.hid (uniR_2 (s := s) (a := a) hN)
      have y5 := store_two x5 (.int .i64 0) (.int .i64 0)
      have e0 := box_cell y5 0 _ rfl
      have e1 := box_cell y5 1 _ rfl
      clear hB hN
      by_cases h1 : n < 1
      · go_wp2
        refine bodyPost_ret (v := .tuple #[.int .i64 0, .agg #[.int .i64 0, .int .i64 0], .bool false]) (by simp [results, Try.results41, go_sem, e0, e1]) rfl ⟨trip_no R.out, below_two b1 (by omega)⟩
      · have h2 : 1000000000 < n := by omega
        go_wp2
        refine bodyPost_ret (v := .tuple #[.int .i64 0, .agg #[.int .i64 0, .int .i64 0], .bool false]) (by simp [results, Try.results41, go_sem, e0, e1]) rfl ⟨trip_no R.out, below_two b1 (by omega)⟩
end Go.Proofs.Ytcjmapdeopffcaa
