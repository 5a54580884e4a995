/- The walks of the laws on single seals. -/
import Derived.Test.YtmblmlajmfpcgaaSeal
namespace Go.Proofs.Ytmblmlajmfpcgaa
open Go.RowKit

set_option maxHeartbeats 400000 in
theorem walk_FnExactSealSeed (a b : Int) (w : World) (_wa : (Lit.int .i64 a).wf = true) (_wb : (Lit.int .i64 b).wf = true) :
    Calls Try.prog 5 #[.int .i64 a, .int .i64 b] w fun e w' => e = .returned (.bool true) ∧ Below w.heap.size w w' := by
  go_enter Try.func5, Try.ntmps5
  go_wp2_with fail
  refine (specSealSeed_any _ _ _).mono ?_
  rintro e w1 ⟨rfl, hb1⟩
  go_wp2_with fail
  refine (implSealSeed_any _ _ _).mono ?_
  rintro e w2 ⟨rfl, hb2⟩
  go_wp2
  go_ret
  exact ⟨rfl, hb1.trans (hb2.mono hb1.size)⟩
end Go.Proofs.Ytmblmlajmfpcgaa
