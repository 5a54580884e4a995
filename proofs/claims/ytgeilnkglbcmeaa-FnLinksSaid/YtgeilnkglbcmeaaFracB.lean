/- Fractions, of the program and of the reference: valid ones, lowest terms. -/
import Derived.Test.YtgeilnkglbcmeaaGcd
import Derived.Test.YtgeilnkglbcmeaaZa
namespace Go.Proofs.Ytgeilnkglbcmeaa
open Go.RowKit

/-- The absolute value. -/
def absI (a : Int) : Int := (a.natAbs : Nat)
/-- The greater one. -/
def maxI (a b : Int) : Int := if b < a then a else b
set_option maxHeartbeats 400000 in
theorem l1Most_any (a b : Int) (w : World) :
    Calls Try.prog 86 #[.int .i64 a, .int .i64 b] w fun e w' => e = .returned (.int .i64 (maxI a b)) ∧ w = w' := by
  by_cases h : b < a
  · have E := Lib.hid (show maxI a b = a from if_pos h)
    go_enter Try.func86, Try.ntmps86
    go_wp2
    go_ret
    exact ⟨ret_int E.out.symm, rfl⟩
  · have E := Lib.hid (show maxI a b = b from if_neg h)
    go_enter Try.func86, Try.ntmps86
    go_wp2
    go_ret
    exact ⟨ret_int E.out.symm, rfl⟩

/-- A fraction is valid. -/
def fracB (n d : Int) : Bool := inR d 1 1000000000 && (inR n (-1000000000) 1000000000 && decide (Int.gcd n d = 1))
theorem fracB_1 {n d : Int} (h : inR d 1 1000000000 = false) : fracB n d = false := by simp [fracB, h]
theorem fracB_2 {n d : Int} (h : inR n (-1000000000) 1000000000 = false) : fracB n d = false := by simp [fracB, h]
theorem fracB_3 {n d : Int} (h : ¬ Int.gcd n d = 1) : fracB n d = false := by simp [fracB, h]
theorem fracB_4 {n d : Int} (h1 : inR d 1 1000000000 = true) (h2 : inR n (-1000000000) 1000000000 = true) (h : Int.gcd n d = 1) : fracB n d = true := by simp [fracB, h1, h2, h]
theorem fracB_of {n d : Int} (h : fracB n d = true) : 1 ≤ d ∧ d ≤ 1000000000 ∧ -1000000000 ≤ n ∧ n ≤ 1000000000 ∧ Int.gcd n d = 1 := by
  simp only [fracB, Bool.and_eq_true, decide_eq_true_eq] at h
  have h1 := inR_of h.1
  have h2 := inR_of h.2.1
  exact ⟨h1.1, h1.2, h2.1, h2.2, h.2.2⟩

end Go.Proofs.Ytgeilnkglbcmeaa
