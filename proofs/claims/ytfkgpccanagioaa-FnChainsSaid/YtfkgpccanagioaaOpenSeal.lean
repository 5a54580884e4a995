/- OpenSeal, of the reference and of the program, and its law's walk. -/
import Derived.Test.YtfkgpccanagioaaSeal
namespace Go.Proofs.Ytfkgpccanagioaa
open Go.RowKit

/-- What OpenSeal returns first. -/
def openV (s a b : Int) : Bool := twoB a b && s == dig [1, a, b]
theorem openV_yes {s a b : Int} (h : twoB a b = true) : (s == dig [1, a, b]) = openV s a b := by simp [openV, h]
theorem openV_no {s a b : Int} (h : twoB a b = false) : openV s a b = false := by simp [openV, h]

set_option maxHeartbeats 400000 in
theorem implOpenSeal_any (s a b : Int) (w : World) :
    Calls Try.prog 9 #[.int .i64 s, .int .i64 a, .int .i64 b] w fun e w' => e = .returned (.tuple #[.bool (openV s a b), .bool (twoB a b)]) ∧ Below w.heap.size w w' := by
  go_enter Try.func9, Try.ntmps9
  go_wp2_with fail
  refine (isSeed_any _ _).mono ?_
  rintro e w' ⟨rfl, rfl⟩
  cases hA : inR a 0 4611686016279904236
  · have hB := twoB_no1 (b := b) hA
    have R := Lib.hid (openV_no (s := s) hB)
    have R2 := Lib.hid hB
    clear hA hB
    go_wp2
    go_ret2
    exact ⟨ret_bools R.out.symm R2.out.symm, Below.refl _ _⟩
  · have hAB := Lib.hid (twoB_and (b := b) hA)
    clear hA
    go_wp2_with fail
    refine (isSeed_any _ _).mono ?_
    rintro e w' ⟨rfl, rfl⟩
    rw [hAB.out]
    cases hB : twoB a b
    · have R := Lib.hid (openV_no (s := s) hB)
      have RB := Lib.hid hB
      clear hB
      go_wp2
      go_ret2
      exact ⟨ret_bools R.out.symm RB.out.symm, Below.refl _ _⟩
    · have R := Lib.hid (openV_yes (s := s) hB)
      have RB := Lib.hid hB
      clear hB
      go_wp2_with fail
      refine (sealSeed_any _ _ _).mono ?_
      rintro e w' ⟨rfl, hb⟩
      go_wp2
      go_ret2
      exact ⟨ret_bools R.out RB.out.symm, hb⟩

end Go.Proofs.Ytfkgpccanagioaa
