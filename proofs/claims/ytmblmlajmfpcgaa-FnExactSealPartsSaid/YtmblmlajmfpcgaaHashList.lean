/- HashList, of the reference and of the program, and its law's walk. -/
import Derived.Test.YtmblmlajmfpcgaaSeal
namespace Go.Proofs.Ytmblmlajmfpcgaa
open Go.RowKit

/-- What HashList returns. -/
def hashB (xs : List Int) : Bool := decide (xs.length ≤ 400)
def hashV (xs : List Int) : Int := if xs.length ≤ 400 then dig xs else 0
theorem hash_yes {xs : List Int} (h : xs.length ≤ 400) : hashV xs = dig xs ∧ hashB xs = true := by simp [hashV, hashB, h]
theorem hash_no {xs : List Int} (h : ¬ xs.length ≤ 400) : hashV xs = 0 ∧ hashB xs = false := by simp [hashV, hashB, h]

set_option maxHeartbeats 400000 in
theorem specHashList_any (A : Option Addr) (n c : Nat) (xs : List Int) (w : World) (hx : Ints w A n xs) :
    Calls Try.prog 26 #[.slice A n c] w fun e w' => e = .returned (.tuple #[.int .i64 (hashV xs), .bool (hashB xs)]) ∧ w = w' := by
  by_cases h : n ≤ 400
  · have R := Lib.hid (hash_yes (xs := xs) (by rw [hx.1]; exact h))
    go_enter Try.func26, Try.ntmps26
    go_wp2_with fail
    refine (hInts_any _ _ _ _ _ hx (by omega)).mono ?_
    rintro e w' ⟨rfl, rfl⟩
    go_wp2
    go_ret2
    exact ⟨ret_two R.out.1.symm R.out.2.symm, rfl⟩
  · have R := Lib.hid (hash_no (xs := xs) (by rw [hx.1]; exact h))
    go_enter Try.func26, Try.ntmps26
    go_wp2
    go_ret2
    exact ⟨ret_two R.out.1.symm R.out.2.symm, rfl⟩

set_option maxHeartbeats 400000 in
theorem implHashList_any (A : Option Addr) (n c : Nat) (xs : List Int) (w : World) (hx : Ints w A n xs) :
    Calls Try.prog 28 #[.slice A n c] w fun e w' => e = .returned (.tuple #[.int .i64 (hashV xs), .bool (hashB xs)]) ∧ w = w' := by
  by_cases h : n ≤ 400
  · have R := Lib.hid (hash_yes (xs := xs) (by rw [hx.1]; exact h))
    go_enter Try.func28, Try.ntmps28
    go_wp2_with fail
    refine (digest_any _ _ _ _ _ hx (by omega)).mono ?_
    rintro e w' ⟨rfl, rfl⟩
    go_wp2
    go_ret2
    exact ⟨ret_two R.out.1.symm R.out.2.symm, rfl⟩
  · have R := Lib.hid (hash_no (xs := xs) (by rw [hx.1]; exact h))
    go_enter Try.func28, Try.ntmps28
    go_wp2
    go_ret2
    exact ⟨ret_two R.out.1.symm R.out.2.symm, rfl⟩

set_option maxHeartbeats 400000 in
theorem walk_FnExactHashList (A : Option Addr) (n c : Nat) (xs : List Int) (w : World) (hx : Ints w A n xs) (hm : n ≤ maxLen) (_f : ∀ x ∈ xs, (Lit.int .i64 x).wf = true) :
    Calls Try.prog 8 #[.slice A n c] w fun e w' => e = .returned (.bool true) ∧ Below w.heap.size w w' := by
  unfold maxLen at hm
  by_cases h : n ≤ 1048576
  · go_enter Try.func8, Try.ntmps8
    go_wp2_with fail
    refine (toIntS_any _ _ _ _ _ hx (by omega)).mono ?_
    rintro e w1 ⟨rfl, ho1, hb1⟩
    go_wp2_with fail
    refine (specHashList_any _ _ _ _ _ ho1.ints).mono ?_
    rintro e w' ⟨rfl, rfl⟩
    go_wp2_with fail
    refine (toIntS_any _ _ _ _ _ (hx.below hb1) (by omega)).mono ?_
    rintro e w2 ⟨rfl, ho2, hb2⟩
    go_wp2_with fail
    refine (implHashList_any _ _ _ _ _ ho2.ints).mono ?_
    rintro e w' ⟨rfl, rfl⟩
    have hb12 := hb1.trans (hb2.mono hb1.size)
    go_wp2_with fail
    refine (toIntS_any _ _ _ _ _ (hx.below hb12) (by omega)).mono ?_
    rintro e w3 ⟨rfl, ho3, hb3⟩
    go_wp2_with fail
    refine (eqIntS_true _ _ _ _ _ _ _ (ho2.below hb3).ints ho3.ints (by omega)).mono ?_
    rintro e w4 ⟨rfl, q, rfl⟩
    go_wp2
    go_ret
    exact ⟨rfl, below_drewN (hb12.trans (hb3.mono hb12.size)) q⟩
  · go_enter Try.func8, Try.ntmps8
    go_wp2
    go_ret
    exact ⟨rfl, Below.refl _ _⟩
end Go.Proofs.Ytmblmlajmfpcgaa
