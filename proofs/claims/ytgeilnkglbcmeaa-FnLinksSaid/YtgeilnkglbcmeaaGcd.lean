/- The greatest common divisor, of the program and of the reference; valid fractions. -/
import Derived.Test.YtgeilnkglbcmeaaSeal
namespace Go.Proofs.Ytgeilnkglbcmeaa
open Go.RowKit

theorem gcd_round (m n : Nat) : Nat.gcd m n = Nat.gcd n (m % n) := by
  rw [Nat.gcd_comm m n, Nat.gcd_rec n m, Nat.gcd_comm]
theorem tmod_natAbs (x y : Int) : (x.tmod y).natAbs = x.natAbs % y.natAbs := Int.natAbs_tmod x y

end Go.Proofs.Ytgeilnkglbcmeaa
