/- Rows of whatever type: where they lie. -/
import Derived.Test.YtahbcnclhohnaaaGreatZf
import Derived.Test.YtahbcnclhohnaaaGreatZc
namespace Go.Proofs.YtahbcnclhohnaaaGreat
open Go.RowKit

theorem row_ge {w : World} {B n c sz : Nat} {T : TypeId} {A : Option Addr} {ys : List Value} (h : w.ownsRow B T sz (.slice A n c) n ys) : ∀ k, rowOf A = some k → B ≤ k ∧ k < w.heap.size := fun k hk =>
  World.ownsRow.lt h k (by rw [ownBlock_row]; exact hk)
theorem row_mono {w : World} {n : Nat} {lo : Nat} {T : TypeId} {sz : Nat} {v : Value} {ys : List Value} {lo' : Nat} (h : w.ownsRow lo T sz v n ys) (hl : lo' ≤ lo) : w.ownsRow lo' T sz v n ys := ⟨h.1, by
  rcases h.2 with h0 | ⟨g, cap, cur, hv, hb, hr⟩
  · exact .inl h0
  · exact .inr ⟨g, cap, cur, hv, by omega, hr⟩⟩
end Go.Proofs.YtahbcnclhohnaaaGreat
