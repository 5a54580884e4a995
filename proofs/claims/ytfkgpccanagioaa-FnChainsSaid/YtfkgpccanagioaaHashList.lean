/- HashList, of the reference and of the program, and its law's walk. -/
import Derived.Test.YtfkgpccanagioaaSeal
namespace Go.Proofs.Ytfkgpccanagioaa
open Go.RowKit

/-- What HashList returns. -/
def hashB (xs : List Int) : Bool := decide (xs.length ≤ 400)
def hashV (xs : List Int) : Int := if xs.length ≤ 400 then dig xs else 0
theorem hash_yes {xs : List Int} (h : xs.length ≤ 400) : hashV xs = dig xs ∧ hashB xs = true := by simp [hashV, hashB, h]
theorem hash_no {xs : List Int} (h : ¬ xs.length ≤ 400) : hashV xs = 0 ∧ hashB xs = false := by simp [hashV, hashB, h]

set_option maxHeartbeats 400000 in
theorem specHashList_any (A : Option Addr) (n c : Nat) (xs : List Int) (w : World) (hx : Ints w A n xs) :
    Calls Try.prog 27 #[.slice A n c] w fun e w' => e = .returned (.tuple #[.int .i64 (hashV xs), .bool (hashB xs)]) ∧ w = w' := by
  by_cases h : n ≤ 400
  · have R := Lib.hid (hash_yes (xs := xs) (by rw [hx.1]; exact h))
    go_enter Try.func27, Try.ntmps27
    go_wp2_with fail
    refine (hInts_any _ _ _ _ _ hx (by omega)).mono ?_
    rintro e w' ⟨rfl, rfl⟩
    go_wp2
    go_ret2
    exact ⟨ret_two R.out.1.symm R.out.2.symm, rfl⟩
  · have R := Lib.hid (hash_no (xs := xs) (by rw [hx.1]; exact h))
    go_enter Try.func27, Try.ntmps27
    go_wp2
    go_ret2
    exact ⟨ret_two R.out.1.symm R.out.2.symm, rfl⟩

set_option maxHeartbeats 400000 in
theorem implHashList_any (A : Option Addr) (n c : Nat) (xs : List Int) (w : World) (hx : Ints w A n xs) :
    Calls Try.prog 26 #[.slice A n c] w fun e w' => e = .returned (.tuple #[.int .i64 (hashV xs), .bool (hashB xs)]) ∧ w = w' := by
  by_cases h : n ≤ 400
  · have R := Lib.hid (hash_yes (xs := xs) (by rw [hx.1]; exact h))
    go_enter Try.func26, Try.ntmps26
    go_wp2_with fail
    refine (digest_any _ _ _ _ _ hx (by omega)).mono ?_
    rintro e w' ⟨rfl, rfl⟩
    go_wp2
    go_ret2
    exact ⟨ret_two R.out.1.symm R.out.2.symm, rfl⟩
  · have R := Lib.hid (hash_no (xs := xs) (by rw [hx.1]; exact h))
    go_enter Try.func26, Try.ntmps26
    go_wp2
    go_ret2
    exact ⟨ret_two R.out.1.symm R.out.2.symm, rfl⟩

end Go.Proofs.Ytfkgpccanagioaa
