/- Sums of parts: what the reference's walks need. -/
import Derived.Test.YtgeilnkglbcmeaaGreatRisk
namespace Go.Proofs.YtgeilnkglbcmeaaGreat
open Go.RowKit

theorem fAdd_o (n d p q : Int) (w : World) (hn : sm n) (hd : sm d) (hp : sm p) (hq : sm q) :
    Calls Tryz.prog 29 #[.agg #[.int .i64 n, .int .i64 d], .agg #[.int .i64 p, .int .i64 q]] w fun e w' => e = .returned (.tuple #[.agg #[.int .i64 (fN (addO n d p q)), .int .i64 (fD (addO n d p q))], .bool (fB (addO n d p q))]) ∧ Below w.heap.size w w' := fAdd_any n d p q w hn hd hp hq
theorem OwnII.two {w : World} {lo hi g : Nat} {u v : Value} {A : Option Addr} {n c : Nat} {L : Nat → List Int} (h : OwnII w lo hi A n c L) (hg : g < lo) : OwnII ((w.setCell ⟨g, 0, none⟩ u).setCell ⟨g, 1, none⟩ v) lo hi A n c L :=
  h.keep fun a h1 _ _ => by rw [Below.heap_setCell _ ⟨g, 1, none⟩ v a (by show a ≠ g; omega), Below.heap_setCell _ ⟨g, 0, none⟩ u a (by show a ≠ g; omega)]
end Go.Proofs.YtgeilnkglbcmeaaGreat
