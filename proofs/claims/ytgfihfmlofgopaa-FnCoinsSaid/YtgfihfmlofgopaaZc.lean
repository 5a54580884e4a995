/- Writes between two marks of the heap: single steps. -/
import Derived.Test.YtgfihfmlofgopaaZa
import Derived.Test.YtgfihfmlofgopaaSeal
namespace Go.Proofs.Ytgfihfmlofgopaa
open Go.RowKit

theorem Chg.set {lo hi g i : Nat} {a b : World} {v : Value} (h : Chg lo hi a b) (h1 : lo ≤ g) (h2 : g < hi) : Chg lo hi a (b.setCell ⟨g, i, none⟩ v) :=
  h.trans ⟨rfl, rfl, rfl, by simp, fun k _ ho => Below.heap_setCell b ⟨g, i, none⟩ v k (fun e => by simp at e; omega)⟩
theorem Chg.drew {lo hi : Nat} {a b : World} (h : Chg lo hi a b) : Chg lo hi a b.drew := ⟨h.os, h.tape, h.output, h.size, h.block⟩
theorem Chg.alloc {lo hi : Nat} {a b : World} (h : Chg lo hi a b) (o : Obj) : Chg lo hi a (b.alloc o) := h.trans (Chg.of_below (below_new b o))
theorem Chg.then_ {lo hi : Nat} {a b c : World} (h : Chg lo hi a b) (k : Below b.heap.size b c) : Chg lo hi a c := h.trans (Chg.of_below k)
end Go.Proofs.Ytgfihfmlofgopaa
