/- The laws' helpers on one record: its size, its turning, its comparing. -/
import Derived.Test.YtgeilnkglbcmeaaVarsEq
namespace Go.Proofs.Ytgeilnkglbcmeaa
open Go.RowKit

/-- What is left of a room behind a list of n. -/
def szi (n : Nat) (k : Int) : Int := if k - n < 0 then -1 else k - n
theorem szi_in (n : Nat) (k : Int) (h0 : 0 ≤ k) : (-1 ≤ szi n k ∧ szi n k ≤ k) ∧ (0 ≤ szi n k → szi n k = k - n) := by
  unfold szi
  split <;> omega

set_option maxHeartbeats 400000 in
theorem szIntS_any (A : Option Addr) (n c : Nat) (k : Int) (w : World) (hn : n ≤ 9223372036854775807) (h0 : 0 ≤ k) (h1 : k ≤ 1099511627776) :
    Calls Try.prog 101 #[.slice A n c, .int .i64 k] w fun e w' => e = .returned (.int .i64 (szi n k)) ∧ w' = w := by
  go_enter Try.func101, Try.ntmps101
  by_cases hlt : k - n < 0
  · have R := Lib.hid (show (-1 : Int) = szi n k by unfold szi; rw [if_pos hlt])
    go_wp2
    go_ret
    exact ⟨ret_int R.out, rfl⟩
  · have R := Lib.hid (show k - n = szi n k by unfold szi; rw [if_neg hlt])
    go_wp2
    go_ret
    exact ⟨ret_int R.out, rfl⟩

set_option maxHeartbeats 400000 in
theorem szRecord_any (x y : Int) (A : Option Addr) (n c : Nat) (k : Int) (w : World) (hn : n ≤ 9223372036854775807) (h0 : 0 ≤ k) (h1 : k ≤ 1099511627776) :
    Calls Try.prog 51 #[.agg #[.int .i64 x, .int .i64 y, .slice A n c], .int .i64 k] w fun e w' => e = .returned (.int .i64 (szi n k)) ∧ Below w.heap.size w w' := by
  go_enter Try.func51, Try.ntmps51
  have F := szi_in n k h0
  by_cases hlt : szi n k < 0
  · go_wp2_with (go_at_call 101; refine (szIntS_any _ n _ k _ hn h0 h1).mono ?_; rintro e w2 ⟨rfl, rfl⟩)
    go_ret
    exact ⟨ret_int (by omega), (Below.refl _ _).alloc (Nat.le_refl _) _⟩
  · go_wp2_with (go_at_call 101; refine (szIntS_any _ n _ k _ hn h0 h1).mono ?_; rintro e w2 ⟨rfl, rfl⟩)
    go_ret
    exact ⟨rfl, (Below.refl _ _).alloc (Nat.le_refl _) _⟩

set_option maxHeartbeats 800000 in
theorem eqRecord_any (x y : Int) (A A' : Option Addr) (n c c' : Nat) (xs : List Int) (w : World) (hx : Ints w A n xs) (hy : Ints w A' n xs) (hn : n ≤ 1099511627776) :
    Calls Try.prog 67 #[.agg #[.int .i64 x, .int .i64 y, .slice A n c], .agg #[.int .i64 x, .int .i64 y, .slice A' n c']] w fun e w' => e = .returned (.bool true) ∧ Below w.heap.size w w' := by
  have b0 := ((Below.refl w.heap.size w).alloc (Nat.le_refl _) (.cells #[.int .i64 x, .int .i64 y, .slice A n c] 53)).alloc (by simp) (.cells #[.int .i64 x, .int .i64 y, .slice A' n c'] 53)
  have HX := Lib.hid (hx.below b0)
  have HY := Lib.hid (hy.below b0)
  have HB := Lib.hid b0
  clear hx hy b0
  go_enter Try.func67, Try.ntmps67
  go_wp2_with (go_at_call 15; refine (eqIntS_true _ _ n _ _ xs _ HX.out HY.out hn).mono ?_; rintro e w2 ⟨rfl, q, rfl⟩)
  go_ret
  exact ⟨rfl, below_drewN HB.out q⟩
end Go.Proofs.Ytgeilnkglbcmeaa
