/- OpenSeal, of the reference and of the program, and its law's walk. -/
import Derived.Test.YtmblmlajmfpcgaaSeal
namespace Go.Proofs.Ytmblmlajmfpcgaa
open Go.RowKit

/-- What OpenSeal returns first. -/
def openV (s a b : Int) : Bool := twoB a b && s == dig [1, a, b]
theorem openV_yes {s a b : Int} (h : twoB a b = true) : (s == dig [1, a, b]) = openV s a b := by simp [openV, h]
theorem openV_no {s a b : Int} (h : twoB a b = false) : openV s a b = false := by simp [openV, h]

set_option maxHeartbeats 400000 in
theorem specOpenSeal_any (s a b : Int) (w : World) :
    Calls Try.prog 18 #[.int .i64 s, .int .i64 a, .int .i64 b] w fun e w' => e = .returned (.tuple #[.bool (openV s a b), .bool (twoB a b)]) ∧ Below w.heap.size w w' := by
  go_enter Try.func18, Try.ntmps18
  go_wp2_with fail
  refine (hDigest_any _ _ _ [a, b] _ (own_new w [a, b] 2 rfl (by omega)).ints (by omega)).mono ?_
  rintro e w' ⟨rfl, rfl⟩
  rw [twoB_all]
  cases hB : twoB a b
  · have R := Lib.hid (openV_no (s := s) hB)
    have RB := Lib.hid hB
    clear hB
    go_wp2
    go_ret2
    exact ⟨ret_bools R.out.symm RB.out.symm, below_new _ _⟩
  · have R := Lib.hid (openV_yes (s := s) hB)
    have RB := Lib.hid hB
    clear hB
    go_wp2_with fail
    refine (hSeal_any _ _ _).mono ?_
    rintro e w' ⟨rfl, hb⟩
    go_wp2
    go_ret2
    exact ⟨ret_bools R.out RB.out.symm, (below_new _ _).trans (hb.mono (by simp))⟩

set_option maxHeartbeats 400000 in
theorem implOpenSeal_any (s a b : Int) (w : World) :
    Calls Try.prog 19 #[.int .i64 s, .int .i64 a, .int .i64 b] w fun e w' => e = .returned (.tuple #[.bool (openV s a b), .bool (twoB a b)]) ∧ Below w.heap.size w w' := by
  go_enter Try.func19, Try.ntmps19
  go_wp2_with fail
  refine (isSeed_any _ _).mono ?_
  rintro e w' ⟨rfl, rfl⟩
  cases hA : inR a 0 4611686016279904236
  · have hB := twoB_no1 (b := b) hA
    have R := Lib.hid (openV_no (s := s) hB)
    have R2 := Lib.hid hB
    clear hA hB
    go_wp2
    go_ret2
    exact ⟨ret_bools R.out.symm R2.out.symm, Below.refl _ _⟩
  · have hAB := Lib.hid (twoB_and (b := b) hA)
    clear hA
    go_wp2_with fail
    refine (isSeed_any _ _).mono ?_
    rintro e w' ⟨rfl, rfl⟩
    rw [hAB.out]
    cases hB : twoB a b
    · have R := Lib.hid (openV_no (s := s) hB)
      have RB := Lib.hid hB
      clear hB
      go_wp2
      go_ret2
      exact ⟨ret_bools R.out.symm RB.out.symm, Below.refl _ _⟩
    · have R := Lib.hid (openV_yes (s := s) hB)
      have RB := Lib.hid hB
      clear hB
      go_wp2_with fail
      refine (sealSeed_any _ _ _).mono ?_
      rintro e w' ⟨rfl, hb⟩
      go_wp2
      go_ret2
      exact ⟨ret_bools R.out RB.out.symm, hb⟩

set_option maxHeartbeats 400000 in
theorem walk_FnExactOpenSeal (s a b : Int) (w : World) (_ws : (Lit.int .i64 s).wf = true) (_wa : (Lit.int .i64 a).wf = true) (_wb : (Lit.int .i64 b).wf = true) :
    Calls Try.prog 4 #[.int .i64 s, .int .i64 a, .int .i64 b] w fun e w' => e = .returned (.bool true) ∧ Below w.heap.size w w' := by
  go_enter Try.func4, Try.ntmps4
  go_wp2_with fail
  refine (specOpenSeal_any _ _ _ _).mono ?_
  rintro e w1 ⟨rfl, hb1⟩
  go_wp2_with fail
  refine (implOpenSeal_any _ _ _ _).mono ?_
  rintro e w2 ⟨rfl, hb2⟩
  go_wp2
  go_ret
  exact ⟨rfl, hb1.trans (hb2.mono hb1.size)⟩
end Go.Proofs.Ytmblmlajmfpcgaa
