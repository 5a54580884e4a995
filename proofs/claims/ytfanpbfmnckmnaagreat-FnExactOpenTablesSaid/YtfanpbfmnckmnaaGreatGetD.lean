/- A list with one place set. -/
import Derived.Test.YtfanpbfmnckmnaaGreatPlain
namespace Go.Proofs.YtfanpbfmnckmnaaGreat

theorem getD_set {xs : List Int} {i t : Nat} {v : Int} : (xs.set i v)[t]?.getD 0 = if i = t ∧ t < xs.length then v else xs[t]?.getD 0 := by
  rw [List.getElem?_set]
  by_cases e : i = t
  · subst e
    by_cases h : i < xs.length
    · simp [h]
    · simp [h]
  · simp [e]
end Go.Proofs.YtfanpbfmnckmnaaGreat
