/- The sizes of the classes and the unique records, of the program and of the reference. -/
import Derived.Test.YtfanpbfmnckmnaaGreatZg
namespace Go.Proofs.YtfanpbfmnckmnaaGreat
open Go.RowKit

theorem OwnI.nil_ {w : World} {lo hi : Nat} : OwnI w lo hi none 0 0 [] := ⟨Own.nil_, (fun k hk => by cases hk), by omega⟩
theorem tabl_set {n i : Nat} {F : Nat → Int} {v : Int} : (tabl n F).set i v = tabl n (fun t => if t = i then v else F t) := by
  apply List.ext_getElem?
  intro t
  rcases Nat.lt_or_ge t n with h | h
  · rw [List.getElem?_set]
    by_cases e : i = t
    · subst e; simp [tabl, h]
    · simp [tabl, h, e, Ne.symm e]
  · rw [List.getElem?_eq_none (by rw [List.length_set, tabl_len]; exact h), List.getElem?_eq_none (by rw [tabl_len]; exact h)]
theorem tabl_congr {n : Nat} {F G : Nat → Int} (h : ∀ t, t < n → F t = G t) : tabl n F = tabl n G := List.map_congr_left fun t ht => h t (List.mem_range.1 ht)
theorem tabl_zero (n : Nat) : List.replicate n (0 : Int) = tabl n (fun _ => 0) := by simp [tabl, List.map_const']

end Go.Proofs.YtfanpbfmnckmnaaGreat
