/- Fractions, of the program and of the reference: valid ones, lowest terms. -/
import Derived.Test.YtfanpbfmnckmnaaGreatGcd
import Derived.Test.YtfanpbfmnckmnaaGreatZa
namespace Go.Proofs.YtfanpbfmnckmnaaGreat
open Go.RowKit

/-- The absolute value. -/
def absI (a : Int) : Int := (a.natAbs : Nat)
/-- The greater one. -/
def maxI (a b : Int) : Int := if b < a then a else b
set_option maxHeartbeats 400000 in
theorem l1Most_any (a b : Int) (w : World) :
    Calls Tryz.prog 179 #[.int .i64 a, .int .i64 b] w fun e w' => e = .returned (.int .i64 (maxI a b)) ∧ w = w' := by
  by_cases h : b < a
  · have E := Lib.hid (show maxI a b = a from if_pos h)
    go_enter Tryz.func179, Tryz.ntmps179
    go_wp2
    go_ret
    exact ⟨ret_int E.out.symm, rfl⟩
  · have E := Lib.hid (show maxI a b = b from if_neg h)
    go_enter Tryz.func179, Tryz.ntmps179
    go_wp2
    go_ret
    exact ⟨ret_int E.out.symm, rfl⟩

set_option maxHeartbeats 400000 in
theorem l1Abs_any (a : Int) (w : World) (h0 : -9223372036854775807 ≤ a) (h1 : a ≤ 9223372036854775807) :
    Calls Tryz.prog 136 #[.int .i64 a] w fun e w' => e = .returned (.int .i64 (absI a)) ∧ w = w' := by
  have E := Lib.hid (show maxI a (-a) = absI a by unfold absI maxI; split <;> omega)
  go_enter Tryz.func136, Tryz.ntmps136
  go_wp2_with fail
  refine (l1Most_any _ _ _).mono ?_
  rintro e w' ⟨rfl, rfl⟩
  rw [E.out]
  go_wp2
  go_ret
  exact ⟨rfl, rfl⟩

set_option maxHeartbeats 400000 in
theorem l1Sign_fr (a : Int) (w : World) :
    Calls Tryz.prog 215 #[.int .i64 a] w fun e w' => e = .returned (.int .i64 (Int.sign a)) ∧ w = w' := by
  rcases Int.lt_trichotomy a 0 with h | h | h
  · have E := Lib.hid (Int.sign_eq_neg_one_of_neg h)
    go_enter Tryz.func215, Tryz.ntmps215
    go_wp2
    go_ret
    exact ⟨ret_int E.out.symm, rfl⟩
  · subst h
    go_enter Tryz.func215, Tryz.ntmps215
    go_wp2
    go_ret
    exact ⟨rfl, rfl⟩
  · have E := Lib.hid (Int.sign_eq_one_of_pos h)
    go_enter Tryz.func215, Tryz.ntmps215
    go_wp2
    go_ret
    exact ⟨ret_int E.out.symm, rfl⟩

set_option maxHeartbeats 800000 in
theorem fGcd_any (a b : Int) (w : World) (ha : -9000000000000000000 ≤ a) (ha2 : a ≤ 9000000000000000000) (hb : -9000000000000000000 ≤ b) (hb2 : b ≤ 9000000000000000000) :
    Calls Tryz.prog 196 #[.int .i64 a, .int .i64 b] w fun e w' => e = .returned (.int .i64 (Int.gcd a b : Nat)) ∧ Below w.heap.size w w' := by
  have HG := Lib.hid (show Int.gcd a b = Nat.gcd a.natAbs b.natAbs from rfl)
  generalize Int.gcd a b = G at *
  go_enter Tryz.func196, Tryz.ntmps196
  go_wp2
  go_loopw [0, 1] (fun u v wr => ∃ (x y : Int), -9000000000000000000 ≤ x ∧ x ≤ 9000000000000000000 ∧ -9000000000000000000 ≤ y ∧ y ≤ 9000000000000000000 ∧ u = .int .i64 x ∧ v = .int .i64 y ∧ Hid (G = Nat.gcd x.natAbs y.natAbs) ∧ Below w.heap.size w wr) (fun _ v _ => (intOf v).natAbs)
  case atStart => exact ⟨a, b, ha, ha2, hb, hb2, rfl, rfl, HG, Below.refl _ _⟩
  case round =>
    clear HG
    obtain ⟨x, y, hx, hx2, hy, hy2, rfl, rfl, hG, hbw⟩ := hrel
    by_cases h0 : y = 0
    · subst h0
      have E := Lib.hid (show absI x = (G : Nat) by rw [hG.out]; unfold absI; rw [Int.natAbs_zero, Nat.gcd_zero_right])
      go_wp2_with fail
      refine (l1Abs_any _ _ (by omega) (by omega)).mono ?_
      rintro e w' ⟨rfl, rfl⟩
      rw [E.out]
      go_wp2
      go_ret
      exact ⟨rfl, hbw⟩
    · have hne : (y != 0) = true := by rw [bne_iff_ne]; exact h0
      have HT := tmod_natAbs x y
      have hlt := Nat.mod_lt x.natAbs (show 0 < y.natAbs by omega)
      have E := Lib.hid (show G = Nat.gcd y.natAbs (x.tmod y).natAbs by rw [hG.out, gcd_round, HT])
      have hb1 : -9000000000000000000 ≤ x.tmod y := by omega
      have hb2 : x.tmod y ≤ 9000000000000000000 := by omega
      have hm : (x.tmod y).natAbs < y.natAbs := by omega
      have h0' := Lib.hid h0
      clear HT hlt h0
      go_wp2
      go_roundw
      case rel => exact ⟨y, x.tmod y, hy, hy2, hb1, hb2, rfl, rfl, E, hbw⟩
      case measure => simpa [intOf] using hm

/-- A fraction is valid. -/
def fracB (n d : Int) : Bool := inR d 1 1000000000 && (inR n (-1000000000) 1000000000 && decide (Int.gcd n d = 1))
theorem fracB_1 {n d : Int} (h : inR d 1 1000000000 = false) : fracB n d = false := by simp [fracB, h]
theorem fracB_2 {n d : Int} (h : inR n (-1000000000) 1000000000 = false) : fracB n d = false := by simp [fracB, h]
theorem fracB_3 {n d : Int} (h : ¬ Int.gcd n d = 1) : fracB n d = false := by simp [fracB, h]
theorem fracB_4 {n d : Int} (h1 : inR d 1 1000000000 = true) (h2 : inR n (-1000000000) 1000000000 = true) (h : Int.gcd n d = 1) : fracB n d = true := by simp [fracB, h1, h2, h]
theorem fracB_of {n d : Int} (h : fracB n d = true) : 1 ≤ d ∧ d ≤ 1000000000 ∧ -1000000000 ≤ n ∧ n ≤ 1000000000 ∧ Int.gcd n d = 1 := by
  simp only [fracB, Bool.and_eq_true, decide_eq_true_eq] at h
  have h1 := inR_of h.1
  have h2 := inR_of h.2.1
  exact ⟨h1.1, h1.2, h2.1, h2.2, h.2.2⟩

set_option maxHeartbeats 800000 in
theorem isFrac_any (n d : Int) (w : World) :
    Calls Tryz.prog 117 #[.agg #[.int .i64 n, .int .i64 d]] w fun e w' => e = .returned (.bool (fracB n d)) ∧ Below w.heap.size w w' := by
  by_cases h1 : 1 ≤ d
  · by_cases h2 : d ≤ 1000000000
    · by_cases h3 : -1000000000 ≤ n
      · by_cases h4 : n ≤ 1000000000
        · go_enter Tryz.func117, Tryz.ntmps117
          go_wp2_with fail
          refine (gcdOf_any _ _ _ (by omega) (by omega) (by omega) (by omega)).mono ?_
          rintro e w1 ⟨rfl, hb⟩
          by_cases hg : Int.gcd n d = 1
          · have E := Lib.hid (fracB_4 (inR_yes h1 h2) (inR_yes h3 h4) hg)
            rw [hg]
            clear hg
            go_wp2
            go_ret
            exact ⟨ret_bool E.out.symm, (below_new _ _).trans (hb.mono (by simp))⟩
          · have E := Lib.hid (fracB_3 hg)
            have hne : (((Int.gcd n d : Nat) : Int) == 1) = false := by rw [beq_eq_false_iff_ne]; omega
            clear hg
            go_wp2
            go_ret
            exact ⟨ret_bool E.out.symm, (below_new _ _).trans (hb.mono (by simp))⟩
        · have E := Lib.hid (fracB_2 (d := d) (inR_no (n := n) (lo := -1000000000) (by omega)))
          go_enter Tryz.func117, Tryz.ntmps117
          go_wp2
          go_ret
          exact ⟨ret_bool E.out.symm, below_new _ _⟩
      · have E := Lib.hid (fracB_2 (d := d) (inR_no (n := n) (hi := 1000000000) (fun h => h3 h.1)))
        go_enter Tryz.func117, Tryz.ntmps117
        go_wp2
        go_ret
        exact ⟨ret_bool E.out.symm, below_new _ _⟩
    · have E := Lib.hid (fracB_1 (n := n) (inR_no (n := d) (lo := 1) (fun h => h2 h.2)))
      go_enter Tryz.func117, Tryz.ntmps117
      go_wp2
      go_ret
      exact ⟨ret_bool E.out.symm, below_new _ _⟩
  · have E := Lib.hid (fracB_1 (n := n) (inR_no (n := d) (hi := 1000000000) (fun h => h1 h.1)))
    go_enter Tryz.func117, Tryz.ntmps117
    go_wp2
    go_ret
    exact ⟨ret_bool E.out.symm, below_new _ _⟩

set_option maxHeartbeats 800000 in
theorem fGood_any (n d : Int) (w : World) :
    Calls Tryz.prog 163 #[.agg #[.int .i64 n, .int .i64 d]] w fun e w' => e = .returned (.bool (fracB n d)) ∧ Below w.heap.size w w' := by
  go_enter Tryz.func163, Tryz.ntmps163
  go_wp2_with fail
  refine (l1In_any _ _ _ _).mono ?_
  rintro e w' ⟨rfl, rfl⟩
  cases hD : inR d 1 1000000000
  · have E := Lib.hid (fracB_1 (n := n) hD)
    clear hD
    go_wp2
    go_ret
    exact ⟨ret_bool E.out.symm, below_new _ _⟩
  · have HD := Lib.hid hD
    have hd := inR_of hD
    clear hD
    go_wp2_with fail
    refine (l1In_any _ _ _ _).mono ?_
    rintro e w' ⟨rfl, rfl⟩
    cases hN : inR n (-1000000000) 1000000000
    · have E := Lib.hid (fracB_2 (d := d) hN)
      clear hN
      go_wp2
      go_ret
      exact ⟨ret_bool E.out.symm, below_new _ _⟩
    · have HN := Lib.hid hN
      have hn := inR_of hN
      clear hN
      go_wp2_with fail
      refine (fGcd_any _ _ _ (by omega) (by omega) (by omega) (by omega)).mono ?_
      rintro e w1 ⟨rfl, hb⟩
      by_cases hg : Int.gcd n d = 1
      · have E := Lib.hid (fracB_4 HD.out HN.out hg)
        rw [hg]
        clear hg
        go_wp2
        go_ret
        exact ⟨ret_bool E.out.symm, (below_new _ _).trans (hb.mono (by simp))⟩
      · have E := Lib.hid (fracB_3 hg)
        have hne : (((Int.gcd n d : Nat) : Int) == 1) = false := by rw [beq_eq_false_iff_ne]; omega
        clear hg
        go_wp2
        go_ret
        exact ⟨ret_bool E.out.symm, (below_new _ _).trans (hb.mono (by simp))⟩
end Go.Proofs.YtfanpbfmnckmnaaGreat
