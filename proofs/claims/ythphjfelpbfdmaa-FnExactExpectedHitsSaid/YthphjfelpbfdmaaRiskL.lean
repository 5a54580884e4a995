/- What the laws of LinkRisk and ExpectedHits need. -/
import Derived.Test.YthphjfelpbfdmaaRiskI
import Derived.Test.YthphjfelpbfdmaaRiskJ
import Derived.Test.YthphjfelpbfdmaaRiskS
import Derived.Test.YthphjfelpbfdmaaRiskT
import Derived.Test.YthphjfelpbfdmaaLawU
namespace Go.Proofs.Ythphjfelpbfdmaa
open Go.RowKit

theorem eqFrac_true (n d : Int) (w : World) :
    Calls Try.prog 57 #[.agg #[.int .i64 n, .int .i64 d], .agg #[.int .i64 n, .int .i64 d]] w fun e w' => e = .returned (.bool true) ∧ Below w.heap.size w w' := by
  obtain ⟨b0, x0, x1⟩ := box_two w #[.int .i64 n, .int .i64 d] #[.int .i64 n, .int .i64 d] 72 72
  have a0 := box_cell x0 0 _ rfl
  have a1 := box_cell x0 1 _ rfl
  have c0 := box_cell x1 0 _ rfl
  have c1 := box_cell x1 1 _ rfl
  have hn : (n != n) = false := by simp
  have hd : (d != d) = false := by simp
  go_enter Try.func57, Try.ntmps57
  go_wp2
  go_ret
  exact ⟨rfl, b0⟩
end Go.Proofs.Ythphjfelpbfdmaa
