/- The walk of the law FnExactBitAt, printed by lawgen.py off the law's own text. -/
import Derived.Test.YtmblmlajmfpcgaaSealLaws
namespace Go.Proofs.Ytmblmlajmfpcgaa
open Go.RowKit

set_option maxHeartbeats 2000000 in
theorem walk_FnExactBitAt (a0 : Int) (a1 : Int) (w : World) (_w0 : (Lit.int .i64 a0).wf = true) (_w1 : (Lit.int .i64 a1).wf = true) :
    Calls Try.prog 7 #[.int .i64 a0, .int .i64 a1] w fun e w' => e = .returned (.bool true) ∧ Below w.heap.size w w' := by
  go_enter Try.func7, Try.ntmps7
  go_wp2_with fail
  have B0 : Below w.heap.size w w := Below.refl _ _
  refine (specBitAt_law _ _ _ ).mono ?_
  rintro e w1 ⟨rfl, b1⟩
  have B1 := B0.trans (b1.mono B0.size)
  have S1 := b1.size
  clear b1
  have Z0 := Lib.hid B0
  clear B0 Z0
  go_wp2_with fail
  refine (implBitAt_law _ _ _ ).mono ?_
  rintro e w2 ⟨rfl, b2⟩
  have B2 := B1.trans (b2.mono B1.size)
  have S2 := b2.size
  clear b2
  have Z1 := Lib.hid B1
  clear B1 Z1
  go_wp2
  go_ret
  exact ⟨rfl, B2⟩
end Go.Proofs.Ytmblmlajmfpcgaa
