/- The walk of the law FnExactDerivedSeed, printed by lawgen.py off the law's own text. -/
import Derived.Test.YtmblmlajmfpcgaaSealLaws
namespace Go.Proofs.Ytmblmlajmfpcgaa
open Go.RowKit

set_option maxHeartbeats 2000000 in
theorem walk_FnExactDerivedSeed (a0 : Int) (a1 : ByteArray) (w : World) (_w0 : (Lit.int .i64 a0).wf = true) (m1 : a1.size ≤ maxLen) :
    Calls Try.prog 9 #[.int .i64 a0, .string a1] w fun e w' => e = .returned (.bool true) ∧ Below w.heap.size w w' := by
  unfold maxLen at m1
  rcases Nat.lt_or_ge 1048576 a1.size with g1 | g1
  · go_enter Try.func9, Try.ntmps9
    go_wp2
    go_ret
    exact ⟨rfl, Below.refl _ _⟩
  go_enter Try.func9, Try.ntmps9
  go_wp2_with fail
  have B0 : Below w.heap.size w w := Below.refl _ _
  refine (specDerivedSeed_law _ _ _ (by omega)).mono ?_
  rintro e w1 ⟨rfl, b1⟩
  have B1 := B0.trans (b1.mono B0.size)
  have S1 := b1.size
  clear b1
  have Z0 := Lib.hid B0
  clear B0 Z0
  go_wp2_with fail
  refine (implDerivedSeed_law _ _ _ (by omega)).mono ?_
  rintro e w2 ⟨rfl, b2⟩
  have B2 := B1.trans (b2.mono B1.size)
  have S2 := b2.size
  clear b2
  have Z1 := Lib.hid B1
  clear B1 Z1
  go_wp2
  go_ret
  exact ⟨rfl, B2⟩
end Go.Proofs.Ytmblmlajmfpcgaa
