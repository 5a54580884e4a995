/- The sizes of the classes and the unique records, of the program and of the reference. -/
import Derived.Test.YtahbcnclhohnaaaGreatZg
namespace Go.Proofs.YtahbcnclhohnaaaGreat
open Go.RowKit

def RetInts (w : World) (L : List Int) (b : Bool) (e : Ending) (w' : World) : Prop :=
  ∃ A' c', e = .returned (.tuple #[.slice A' L.length c', .bool b]) ∧ OwnI w' w.heap.size w'.heap.size A' L.length c' L ∧ Below w.heap.size w w'
theorem OwnI.nil_ {w : World} {lo hi : Nat} : OwnI w lo hi none 0 0 [] := ⟨Own.nil_, (fun k hk => by cases hk), by omega⟩
theorem tabl_set {n i : Nat} {F : Nat → Int} {v : Int} : (tabl n F).set i v = tabl n (fun t => if t = i then v else F t) := by
  apply List.ext_getElem?
  intro t
  rcases Nat.lt_or_ge t n with h | h
  · rw [List.getElem?_set]
    by_cases e : i = t
    · subst e; simp [tabl, h]
    · simp [tabl, h, e, Ne.symm e]
  · rw [List.getElem?_eq_none (by rw [List.length_set, tabl_len]; exact h), List.getElem?_eq_none (by rw [tabl_len]; exact h)]
theorem tabl_congr {n : Nat} {F G : Nat → Int} (h : ∀ t, t < n → F t = G t) : tabl n F = tabl n G := List.map_congr_left fun t ht => h t (List.mem_range.1 ht)
def csL (vs : List (ByteArray × Int)) (us : List Int) (rs : List RecD) : List Int := tabl rs.length (fun i => ((setL vs us rs rs i).length : Int))
def uqL (vs : List (ByteArray × Int)) (us : List Int) (rs : List RecD) : List Int := linkK (fun i => decide ((setL vs us rs rs i).length = 1)) rs.length
theorem csL_len (vs : List (ByteArray × Int)) (us : List Int) (rs : List RecD) : (csL vs us rs).length = rs.length := tabl_len _ _
def midC (vs : List (ByteArray × Int)) (us : List Int) (rs : List RecD) (i j : Nat) : Nat → Int := fun t => ((midL vs us rs rs i j t).length : Int)
theorem midC_yes {vs : List (ByteArray × Int)} {us : List Int} {rs : List RecD} {n i j : Nat} (h : lnk vs us rs rs i j = true) : (tabl n (midC vs us rs i j)).set i (midC vs us rs i j i + 1) = tabl n (midC vs us rs i (j + 1)) := by
  rw [tabl_set]
  refine tabl_congr fun t _ => ?_
  by_cases e : t = i
  · subst e; rw [if_pos rfl]; simp [midC, midL_at, linkK_yes h]
  · rw [if_neg e]; simp [midC, midL, e]
theorem midC_bd (vs : List (ByteArray × Int)) (us : List Int) (rs : List RecD) (i j : Nat) : 0 ≤ midC vs us rs i j i ∧ midC vs us rs i j i ≤ j := by
  have := linkK_len (lnk vs us rs rs i) j
  simp only [midC, midL_at]
  omega
theorem tabl_zero (n : Nat) : List.replicate n (0 : Int) = tabl n (fun _ => 0) := by simp [tabl, List.map_const']

def csV (vs : List (ByteArray × Int)) (rs : List RecD) (us : List Int) : List Int := if keyedB vs rs us = true then csL vs us rs else []
def uqV (vs : List (ByteArray × Int)) (rs : List RecD) (us : List Int) : List Int := if keyedB vs rs us = true then uqL vs us rs else []

end Go.Proofs.YtahbcnclhohnaaaGreat
