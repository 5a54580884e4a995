/- Drawn inputs of the seeded rounding. -/
import Derived.Test.YtcjmapdeopffcaaSdH
import Derived.Test.YtcjmapdeopffcaaSdF
namespace Go.Proofs.Ytcjmapdeopffcaa
open Go.RowKit Flo
set_option linter.unusedVariables false

def DSr (w : World) (e : Ending) (w' : World) : Prop := ∃ (A : Option Addr) (n c : Nat) (K : Nat → List Int) (b s : Int), e = .returned (.tuple #[.slice A n c, .int .i64 b, .int .i64 s]) ∧ Shrt n K ∧ IntsS w' A n K ∧ Below w.heap.size w w'

set_option maxRecDepth 100000 in
set_option maxHeartbeats 4000000 in
theorem drawSR_any (A : Option Addr) (n c : Nat) (w : World) (hb : Byt w A n) (hn : n ≤ 9223372036854775807) :
    Calls Try.prog 15 #[.slice A n c] w (DSr w) := by
  have xc := box_new w #[.slice A n c, .int .i64 0, .int .u64 0] 75
  have b0 := below_new w (.cells #[.slice A n c, .int .i64 0, .int .u64 0] 75)
  have S := Lib.hid (show (w.alloc (.cells #[.slice A n c, .int .i64 0, .int .u64 0] 75)).heap.size = w.heap.size + 1 by simp)
  have hc0 : Cur _ w.heap.size 0 := cur_new2 xc (by omega) hb (fun b hb => b0.block b hb) hn
  clear xc hb
  go_enter Try.func15, Try.ntmps15
  go_wp2_with fail
  generalize w.alloc (.cells #[.slice A n c, .int .i64 0, .int .u64 0] 75) = w0 at *
  refine (anyGrid_any w.heap.size 0 w0 hc0 (by omega)).mono ?_
  rintro e w1 ⟨A1, n1, c1, K, rfl, HS, hO, hc1, hg1⟩
  have hs0 := S.out
  clear hc0
  go_wp2_with fail
  refine (base_any w.heap.size _ w1 hc1 (by omega)).mono ?_
  rintro e w2 ⟨b, rfl, _, _, hc2, hg2⟩
  replace hO := hO.chg hg2 (.inr (by omega))
  replace hg2 := hg1.trans hg2
  clear hc1 hg1
  go_wp2_with fail
  refine (anySeed_any w.heap.size _ w2 hc2 (by omega)).mono ?_
  rintro e w3 ⟨s, rfl, _, _, hc3, hg3⟩
  have HO := Lib.hid (hO.chg hg3 (.inr (by omega))).read
  have HB := Lib.hid (Chg.to_below (Nat.le_refl _) ((Chg.of_below (lo := w.heap.size) (hi := w.heap.size + 1) b0).trans (hg2.trans hg3)))
  clear hc2 hg2 hg3 hc3 hO b0
  go_wp2
  exact bodyPost_ret (v := .tuple #[.slice A1 n1 c1, .int .i64 b, .int .i64 s]) (by simp [results, Try.results15, go_sem]) rfl ⟨A1, n1, c1, K, b, s, rfl, HS, HO.out, HB.out⟩
end Go.Proofs.Ytcjmapdeopffcaa
