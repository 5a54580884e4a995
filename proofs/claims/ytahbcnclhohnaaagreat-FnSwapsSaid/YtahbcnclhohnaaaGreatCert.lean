/- The certain links, of the program and of the reference. -/
import Derived.Test.YtahbcnclhohnaaaGreatZh
namespace Go.Proofs.YtahbcnclhohnaaaGreat
open Go.RowKit

def clR (vs : List (ByteArray × Int)) (rs qs : List RecD) (us : List Int) : List (List Int) := if linkedB vs rs qs us = true then pairsL (setL vs us rs qs) rs.length rs.length else []
def RetLL (w : World) (R : List (List Int)) (b : Bool) (e : Ending) (w' : World) : Prop :=
  ∃ A' c', e = .returned (.tuple #[.slice A' R.length c', .bool b]) ∧ OwnII w' w.heap.size w'.heap.size A' R.length c' (fun t => R[t]?.getD []) ∧ Below w.heap.size w w'

theorem flatS_len {S : Nat → List Int} (h : ∀ i, (S i).length ≤ 40) (i : Nat) : (flatS S i).length ≤ 40 * i := by
  induction i with
  | zero => simp [flatS]
  | succ i ih => rw [flatS_succ, List.length_append]; have := h i; omega

theorem clR_row (vs : List (ByteArray × Int)) (rs qs : List RecD) (us : List Int) (j : Nat) : ((clR vs rs qs us)[j]?.getD []).length ≤ 1048576 := by
  unfold clR
  split
  · unfold pairsL
    rw [List.getElem?_map]
    cases (linkK (certB (setL vs us rs qs) rs.length) rs.length)[j]? <;> simp
  · simp
theorem clR_le {vs : List (ByteArray × Int)} {rs qs : List RecD} {us : List Int} {n : Nat} (hl : rs.length = n) (hn : n ≤ 1048576) : (clR vs rs qs us).length ≤ 1048576 := by
  unfold clR
  split
  · have := pairsL_len (setL vs us rs qs) rs.length rs.length; omega
  · simp
end Go.Proofs.YtahbcnclhohnaaaGreat
