/- Ratios, of the reference and of the program. -/
import Derived.Test.YtfkdmddfadkjoaaCoin
namespace Go.Proofs.Ytfkdmddfadkjoaa
open Go.RowKit

/-- A valid fraction between 0 and 1. -/
def ratioB (n d : Int) : Bool := fracB n d && (decide (0 < n) && decide (n < d))
theorem ratioB_1 {n d : Int} (h : fracB n d = false) : ratioB n d = false := by simp [ratioB, h]
theorem ratioB_2 {n d : Int} (h : ¬ 0 < n) : ratioB n d = false := by simp [ratioB, h]
theorem ratioB_3 {n d : Int} (h : ¬ n < d) : ratioB n d = false := by simp [ratioB, h]
theorem ratioB_4 {n d : Int} (h : fracB n d = true) (h0 : 0 < n) (h1 : n < d) : ratioB n d = true := by simp [ratioB, h, h0, h1]
theorem ratioB_of {n d : Int} (h : ratioB n d = true) : fracB n d = true ∧ 0 < n ∧ n < d := by simpa [ratioB] using h

set_option maxHeartbeats 800000 in
theorem isRatio_any (n d : Int) (w : World) :
    Calls Try.prog 82 #[.agg #[.int .i64 n, .int .i64 d]] w fun e w' => e = .returned (.bool (ratioB n d)) ∧ Below w.heap.size w w' := by
  go_enter Try.func82, Try.ntmps82
  go_wp2_with fail
  have x0 := box_new w #[.int .i64 n, .int .i64 d] 28
  refine (isFrac_any _ _ _).mono ?_
  rintro e w1 ⟨rfl, b1⟩
  replace x0 := box_below x0 b1
  have c0 := box_cell x0 0 _ rfl
  have c1 := box_cell x0 1 _ rfl
  replace b1 := (below_new w (.cells #[.int .i64 n, .int .i64 d] 28)).trans (b1.mono (by simp))
  cases hB : fracB n d
  · have R := Lib.hid (ratioB_1 hB)
    clear hB
    go_wp2
    go_ret
    exact ⟨ret_bool R.out.symm, b1⟩
  · by_cases h0 : 0 < n
    · by_cases h1 : n < d
      · have R := Lib.hid (ratioB_4 hB h0 h1)
        clear hB
        go_wp2
        go_ret
        exact ⟨ret_bool R.out.symm, b1⟩
      · have R := Lib.hid ((decide_eq_false h1).trans (ratioB_3 h1).symm)
        clear hB
        go_wp2
        go_ret
        exact ⟨ret_bool R.out, b1⟩
    · have R := Lib.hid (ratioB_2 (d := d) h0)
      clear hB
      go_wp2
      go_ret
      exact ⟨ret_bool R.out.symm, b1⟩

set_option maxHeartbeats 800000 in
theorem zRatio_any (n d : Int) (w : World) :
    Calls Try.prog 77 #[.agg #[.int .i64 n, .int .i64 d]] w fun e w' => e = .returned (.bool (ratioB n d)) ∧ Below w.heap.size w w' := by
  go_enter Try.func77, Try.ntmps77
  go_wp2_with fail
  have x0 := box_new w #[.int .i64 n, .int .i64 d] 28
  refine (fGood_any _ _ _).mono ?_
  rintro e w1 ⟨rfl, b1⟩
  replace x0 := box_below x0 b1
  have c0 := box_cell x0 0 _ rfl
  have c1 := box_cell x0 1 _ rfl
  replace b1 := (below_new w (.cells #[.int .i64 n, .int .i64 d] 28)).trans (b1.mono (by simp))
  cases hB : fracB n d
  · have R := Lib.hid (ratioB_1 hB)
    clear hB
    go_wp2
    go_ret
    exact ⟨ret_bool R.out.symm, b1⟩
  · by_cases h0 : 0 < n
    · by_cases h1 : n < d
      · have R := Lib.hid (ratioB_4 hB h0 h1)
        clear hB
        go_wp2
        go_ret
        exact ⟨ret_bool R.out.symm, b1⟩
      · have R := Lib.hid ((decide_eq_false h1).trans (ratioB_3 h1).symm)
        clear hB
        go_wp2
        go_ret
        exact ⟨ret_bool R.out, b1⟩
    · have R := Lib.hid (ratioB_2 (d := d) h0)
      clear hB
      go_wp2
      go_ret
      exact ⟨ret_bool R.out.symm, b1⟩
end Go.Proofs.Ytfkdmddfadkjoaa
