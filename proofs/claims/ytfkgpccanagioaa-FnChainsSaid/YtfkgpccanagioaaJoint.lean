/- JointSeed, of the reference and of the program. -/
import Derived.Test.YtfkgpccanagioaaSeal
import Derived.Test.YtfkgpccanagioaaAppend
import Derived.Test.YtfkgpccanagioaaParts
namespace Go.Proofs.Ytfkgpccanagioaa
open Go.RowKit

/-- What JointSeed returns. -/
def jointB (ps : List Int) : Bool := decide (1 ≤ ps.length ∧ ps.length ≤ 392) && allR ps 0 4611686016279904236
def jointV (ps : List Int) : Int := if jointB ps = true then dig ([2, (ps.length : Int)] ++ ps) else 0
theorem joint_len {ps : List Int} (h : ¬ (1 ≤ ps.length ∧ ps.length ≤ 392)) : jointV ps = 0 ∧ jointB ps = false := by
  have hb : jointB ps = false := by unfold jointB; rw [decide_eq_false h]; rfl
  exact ⟨by unfold jointV; rw [if_neg (by simp [hb])], hb⟩
theorem joint_no {ps : List Int} (h : allR ps 0 4611686016279904236 = false) : jointV ps = 0 ∧ jointB ps = false := by
  have hb : jointB ps = false := by simp [jointB, h]
  exact ⟨by unfold jointV; rw [if_neg (by simp [hb])], hb⟩
theorem joint_yes {ps : List Int} {n : Nat} (hn : ps.length = n) (h : 1 ≤ ps.length ∧ ps.length ≤ 392) (h2 : allR ps 0 4611686016279904236 = true) : jointV ps = dig ([2, (n : Int)] ++ ps) ∧ jointB ps = true := by
  have hb : jointB ps = true := by unfold jointB; rw [decide_eq_true h, h2]; rfl
  exact ⟨by unfold jointV; rw [if_pos hb, hn], hb⟩

set_option maxHeartbeats 400000 in
theorem hJoint_any (A : Option Addr) (n c : Nat) (xs : List Int) (w : World) (hx : Ints w A n xs) (hn : n ≤ 1000) :
    Calls Try.prog 46 #[.slice A n c] w fun e w' => e = .returned (.int .i64 (dig ([2, (n : Int)] ++ xs))) ∧ Below w.heap.size w w' := by
  go_enter Try.func46, Try.ntmps46
  go_wp2_with (at_builtin; refine wp_app rfl _ _ rfl w.heap.size _ 2 2 [2, (n : Int)] rfl (own_new w [2, (n : Int)] 2 rfl (by omega)) A n c xs rfl (hx.alloc _) (by omega) (by simp) ?_; intro A2 c2 w2 hown2 hg2 _)
  have hb2 := below_write (below_new w _) hg2 (by simp) (fun k hk => by simp [rowOf] at hk; omega)
  go_wp2_with fail
  refine (hInts_any _ _ _ _ _ hown2.ints (by omega)).mono ?_
  rintro e w' ⟨rfl, rfl⟩
  go_wp2
  go_ret
  exact ⟨rfl, hb2⟩

set_option maxHeartbeats 400000 in
theorem specJointSeed_any (A : Option Addr) (n c : Nat) (xs : List Int) (w : World) (hx : Ints w A n xs) (hn : n ≤ 1099511627776) :
    Calls Try.prog 19 #[.slice A n c] w fun e w' => e = .returned (.tuple #[.int .i64 (jointV xs), .bool (jointB xs)]) ∧ Below w.heap.size w w' := by
  have h1 := Lib.hid hx.1
  go_enter Try.func19, Try.ntmps19
  go_wp2_with fail
  refine (l1In_any _ _ _ _).mono ?_
  rintro e w' ⟨rfl, rfl⟩
  by_cases hl : 1 ≤ n ∧ n ≤ 392
  · have hI : inR (n : Int) 1 392 = true := inR_yes (by omega) (by omega)
    rw [hI]
    clear hI
    go_wp2_with fail
    refine (hDigest_any _ _ _ _ _ hx hn).mono ?_
    rintro e w' ⟨rfl, rfl⟩
    cases hA : allR xs 0 4611686016279904236
    · have R := Lib.hid (joint_no hA)
      clear hA
      go_wp2
      go_ret2
      exact ⟨ret_two R.out.1.symm R.out.2.symm, Below.refl _ _⟩
    · have R := Lib.hid (joint_yes h1.out (by rw [h1.out]; exact hl) hA)
      clear hA
      go_wp2_with fail
      refine (hJoint_any _ _ _ _ _ hx (by omega)).mono ?_
      rintro e w1 ⟨rfl, hb⟩
      go_wp2
      go_ret2
      exact ⟨ret_two R.out.1.symm R.out.2.symm, hb⟩
  · have R := Lib.hid (joint_len (ps := xs) (by rw [h1.out]; exact hl))
    have hI : inR (n : Int) 1 392 = false := inR_no (by omega)
    rw [hI]
    clear hI
    go_wp2
    go_ret2
    exact ⟨ret_two R.out.1.symm R.out.2.symm, Below.refl _ _⟩

set_option maxHeartbeats 400000 in
theorem implJointSeed_any (A : Option Addr) (n c : Nat) (xs : List Int) (w : World) (hx : Ints w A n xs) (_hn : n ≤ 1099511627776) :
    Calls Try.prog 18 #[.slice A n c] w fun e w' => e = .returned (.tuple #[.int .i64 (jointV xs), .bool (jointB xs)]) ∧ Below w.heap.size w w' := by
  have h1 := Lib.hid hx.1
  go_enter Try.func18, Try.ntmps18
  go_wp2_with fail
  refine (areSeeds_any _ _ _ _ _ hx).mono ?_
  rintro e w' ⟨rfl, rfl⟩
  cases hS : seedsB xs
  · have R : Hid (jointV xs = 0 ∧ jointB xs = false) := by
      rcases seedsB_or hS with h | h
      · exact Lib.hid (joint_len (by omega))
      · exact Lib.hid (joint_no h)
    clear hS
    go_wp2
    go_ret2
    exact ⟨ret_two R.out.1.symm R.out.2.symm, Below.refl _ _⟩
  · have HS := Lib.hid (seedsB_of hS)
    clear hS
    by_cases h0 : n = 0
    · have R := Lib.hid (joint_len (ps := xs) (by rw [h1.out]; omega))
      have hz : ((n : Int) == 0) = true := by rw [beq_iff_eq]; omega
      clear HS
      subst h0
      go_wp2
      go_ret2
      exact ⟨ret_two R.out.1.symm R.out.2.symm, Below.refl _ _⟩
    · have hl : n ≤ 392 := by rw [← h1.out]; exact HS.out.1
      have R := Lib.hid (joint_yes h1.out (by rw [h1.out]; omega) HS.out.2)
      have hz : ((n : Int) == 0) = false := by rw [beq_eq_false_iff_ne]; omega
      clear HS
      go_wp2_with (at_builtin; refine wp_app rfl _ _ rfl w.heap.size _ 2 2 [2, (n : Int)] rfl (own_new w [2, (n : Int)] 2 rfl (by omega)) A n c xs rfl (hx.alloc _) (by omega) (by simp) ?_; intro A2 c2 w2 hown2 hg2 _)
      have hb2 := below_write (below_new w _) hg2 (by simp) (fun k hk => by simp [rowOf] at hk; omega)
      go_wp2_with fail
      refine (digest_any _ _ _ _ _ hown2.ints (by omega)).mono ?_
      rintro e w' ⟨rfl, rfl⟩
      go_wp2
      go_ret2
      exact ⟨ret_two R.out.1.symm R.out.2.symm, hb2⟩
end Go.Proofs.Ytfkgpccanagioaa
