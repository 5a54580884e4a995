/- Variances and scales, of the program and of the reference. -/
import Derived.Test.YtfkdmddfadkjoaaIop
import Derived.Test.YtfkdmddfadkjoaaCoin
import Derived.Deep.RegionHeld3
namespace Go.Proofs.Ytfkdmddfadkjoaa
open Go.RowKit

/-- A valid variance. -/
def sigmaB (n d : Int) : Bool := fracB n d && (decide (0 < n) && decide (n ≤ 10000 * d))
theorem sigmaB_1 {n d : Int} (h : fracB n d = false) : sigmaB n d = false := by simp [sigmaB, h]
theorem sigmaB_2 {n d : Int} (h : ¬ 0 < n) : sigmaB n d = false := by simp [sigmaB, h]
theorem sigmaB_3 {n d : Int} (h : ¬ n ≤ 10000 * d) : sigmaB n d = false := by simp [sigmaB, h]
theorem sigmaB_4 {n d : Int} (h : fracB n d = true) (h0 : 0 < n) (h1 : n ≤ 10000 * d) : sigmaB n d = true := by simp [sigmaB, h, h0, h1]
theorem sigmaB_of {n d : Int} (h : sigmaB n d = true) : fracB n d = true ∧ 0 < n ∧ n ≤ 10000 * d := by simpa [sigmaB] using h

set_option maxHeartbeats 800000 in
theorem isSigma2_any (n d : Int) (w : World) :
    Calls Try.prog 90 #[.agg #[.int .i64 n, .int .i64 d]] w fun e w' => e = .returned (.bool (sigmaB n d)) ∧ Below w.heap.size w w' := by
  go_enter Try.func90, Try.ntmps90
  go_wp2_with fail
  have x0 := box_new w #[.int .i64 n, .int .i64 d] 28
  refine (isFrac_any _ _ _).mono ?_
  rintro e w1 ⟨rfl, b1⟩
  replace x0 := box_below x0 b1
  have c0 := box_cell x0 0 _ rfl
  have c1 := box_cell x0 1 _ rfl
  replace b1 := (below_new w (.cells #[.int .i64 n, .int .i64 d] 28)).trans (b1.mono (by simp))
  cases hB : fracB n d
  · have R := Lib.hid (sigmaB_1 hB)
    clear hB
    go_wp2
    go_ret
    exact ⟨ret_bool R.out.symm, b1⟩
  · have hf := fracB_of hB
    have hd1 := hf.1
    have hd2 := hf.2.1
    clear hf
    by_cases h0 : 0 < n
    · by_cases h1 : n ≤ 10000 * d
      · have R := Lib.hid (sigmaB_4 hB h0 h1)
        clear hB
        go_wp2
        go_ret
        exact ⟨ret_bool R.out.symm, b1⟩
      · have R := Lib.hid ((decide_eq_false h1).trans (sigmaB_3 h1).symm)
        clear hB
        go_wp2
        go_ret
        exact ⟨ret_bool R.out, b1⟩
    · have R := Lib.hid (sigmaB_2 (d := d) h0)
      clear hB
      go_wp2
      go_ret
      exact ⟨ret_bool R.out.symm, b1⟩

set_option maxHeartbeats 2000000 in
theorem ySigma_any (n d : Int) (w : World) :
    Calls Try.prog 87 #[.agg #[.int .i64 n, .int .i64 d]] w fun e w' => e = .returned (.bool (sigmaB n d)) ∧ Below w.heap.size w w' := by
  have b0 := below_new w (.cells #[.int .i64 n, .int .i64 d] 28)
  have x0 := box_new w #[.int .i64 n, .int .i64 d] 28
  cases hB : fracB n d
  · have R := Lib.hid (sigmaB_1 hB)
    have HB := Lib.hid hB
    clear hB
    go_enter Try.func87, Try.ntmps87
    go_wp2
    generalize w.alloc (.cells #[.int .i64 n, .int .i64 d] 28) = w0 at *
    have c0 := box_cell x0 0 _ rfl
    have c1 := box_cell x0 1 _ rfl
    first | (go_region_with ((go_at_call 135; refine (fGood_any _ _ _).mono ?_; rintro e w2 ⟨rfl, hb2⟩; rw [HB.out]; have x2 := (hb2.block w.heap.size (lt_of_block x0)).trans x0; have g0 := box_cell x2 0 _ rfl; have g1 := box_cell x2 1 _ rfl; have B2 := b0.drew.trans (hb2.mono b0.size)))) | fail
    all_goals (go_wp2; go_ret; exact ⟨ret_bool R.out.symm, B2⟩)
  · have hs := fracB_sm hB
    have hsn := hs.1
    have hsd := hs.2.1
    have HB := Lib.hid hB
    clear hs hB
    by_cases h0 : 0 < n
    · have R4 := Lib.hid (fun h => sigmaB_4 (n := n) (d := d) HB.out h0 h)
      have R3 := Lib.hid (fun h => sigmaB_3 (n := n) (d := d) h)
      have E := Lib.hid (show decide (n - 10000 * d ≤ 0) = sigmaB n d by
        by_cases h : n ≤ 10000 * d
        · rw [R4.out h]; exact decide_eq_true (by omega)
        · rw [R3.out h]; exact decide_eq_false (by omega))
      clear R3 R4
      go_enter Try.func87, Try.ntmps87
      go_wp2
      generalize w.alloc (.cells #[.int .i64 n, .int .i64 d] 28) = w0 at *
      have c0 := box_cell x0 0 _ rfl
      have c1 := box_cell x0 1 _ rfl
      first | (go_region_with (first | (go_at_call 135; refine (fGood_any _ _ _).mono ?_; rintro e w2 ⟨rfl, hb2⟩; rw [HB.out]; have x2 := (hb2.block w.heap.size (lt_of_block x0)).trans x0; have g0 := box_cell x2 0 _ rfl; have g1 := box_cell x2 1 _ rfl; have B2 := b0.drew.trans (hb2.mono b0.size)) | (go_at_call 122; refine (fInt_any _ _).mono ?_; rintro e w3 ⟨rfl, hb3⟩; have x3 := (hb3.block w.heap.size (lt_of_block x2)).trans x2; have g2 := box_cell x3 0 _ rfl; have g3 := box_cell x3 1 _ rfl; have B3 := B2.trans (hb3.mono B2.size)) | (go_at_call 140; refine (fCmp_any _ _ _ _ _ hsn hsd (sm_of (by omega) (by omega)) sm_one).mono ?_; rintro e w4 ⟨rfl, hb4⟩; have x4 := (hb4.block w.heap.size (lt_of_block x3)).trans x3; have g4 := box_cell x4 0 _ rfl; have g5 := box_cell x4 1 _ rfl; have B4 := B3.trans (hb4.mono B3.size)))) | fail
      all_goals (go_wp2; go_ret; exact ⟨ret_bool E.out, B4⟩)
    · have R := Lib.hid (sigmaB_2 (n := n) (d := d) h0)
      have hd := decide_eq_false h0
      go_enter Try.func87, Try.ntmps87
      go_wp2
      generalize w.alloc (.cells #[.int .i64 n, .int .i64 d] 28) = w0 at *
      have c0 := box_cell x0 0 _ rfl
      have c1 := box_cell x0 1 _ rfl
      first | (go_region_with ((go_at_call 135; refine (fGood_any _ _ _).mono ?_; rintro e w2 ⟨rfl, hb2⟩; rw [HB.out]; have x2 := (hb2.block w.heap.size (lt_of_block x0)).trans x0; have g0 := box_cell x2 0 _ rfl; have g1 := box_cell x2 1 _ rfl; have B2 := b0.drew.trans (hb2.mono b0.size)))) | fail
      all_goals (go_wp2; go_ret; exact ⟨ret_bool R.out.symm, B2⟩)

/-- The least number of at least 1 whose square is greater than p/q. -/
def scaleM (p q : Int) : Nat := ((List.range 102).find? fun t : Nat => decide (1 ≤ t) && decide (p < (t : Int) * t * q)).getD 0
theorem scaleM_eq {p q : Int} {t : Nat} (h1 : 1 ≤ t) (ht : t ≤ 101) (hlt : p < (t : Int) * t * q) (hmin : ∀ j : Nat, 1 ≤ j → j < t → (j : Int) * j * q ≤ p) : scaleM p q = t := by
  have h : (List.range 102).find? (fun t : Nat => decide (1 ≤ t) && decide (p < (t : Int) * t * q)) = some t := by
    rw [List.find?_range_eq_some]
    refine ⟨by simp [h1, hlt], by simp; omega, fun j hj => ?_⟩
    rcases Nat.eq_zero_or_pos j with h0 | h0
    · subst h0; simp
    · have := hmin j h0 hj
      simp; exact .inr this
  unfold scaleM
  rw [h]; rfl
theorem sq_bd {q : Int} {t : Nat} (ht : t ≤ 101) (hq : 1 ≤ q) (hq2 : q ≤ 1000000000) : 0 ≤ (t : Int) * t ∧ (t : Int) * t ≤ 10201 ∧ 0 ≤ (t : Int) * t * q ∧ (t : Int) * t * q ≤ 10201000000000 := by
  have h1 : 0 ≤ (t : Int) * t := Int.mul_nonneg (by omega) (by omega)
  have h2 : (t : Int) * t ≤ 101 * 101 := Int.mul_le_mul (by omega) (by omega) (by omega) (by omega)
  have h3 : 0 ≤ (t : Int) * t * q := Int.mul_nonneg h1 (by omega)
  have h4 : (t : Int) * t * q ≤ 10201 * 1000000000 := Int.mul_le_mul (by omega) hq2 (by omega) (by omega)
  exact ⟨h1, by omega, h3, by omega⟩

set_option maxHeartbeats 800000 in
theorem scaleFor_any (p q : Int) (w : World) (h : sigmaB p q = true) :
    Calls Try.prog 142 #[.agg #[.int .i64 p, .int .i64 q]] w fun e w' => e = .returned (.int .i64 (scaleM p q : Nat)) ∧ 1 ≤ scaleM p q ∧ scaleM p q ≤ 101 ∧ Below w.heap.size w w' := by
  have hs := sigmaB_of h
  have hf := fracB_of hs.1
  have hp1 := hs.2.2
  have hq1 := hf.1
  have hq2 := hf.2.1
  have hp2 := hf.2.2.2.1
  have hp0 := hs.2.1
  have HE : Hid (∀ t : Nat, 1 ≤ t → t ≤ 101 → p < (t : Int) * t * q → (∀ j : Nat, 1 ≤ j → j < t → (j : Int) * j * q ≤ p) → scaleM p q = t) := Lib.hid fun t a1 a2 a3 a4 => scaleM_eq a1 a2 a3 a4
  generalize scaleM p q = S at *
  clear hs hf h
  have x0 := box_new w #[.int .i64 p, .int .i64 q] 28
  have b0 := below_new w (.cells #[.int .i64 p, .int .i64 q] 28)
  go_enter Try.func142, Try.ntmps142
  go_wp2_with fail
  generalize w.alloc (.cells #[.int .i64 p, .int .i64 q] 28) = w0 at *
  have c0 := box_cell x0 0 _ rfl
  have c1 := box_cell x0 1 _ rfl
  go_loop [3] (fun i => ∃ t : Nat, 1 ≤ t ∧ t ≤ 101 ∧ i = .int .i64 t ∧ Hid (∀ j : Nat, 1 ≤ j → j < t → (j : Int) * j * q ≤ p)) (fun i => 101 - (intOf i).toNat)
  case atStart => exact ⟨1, by omega, by omega, rfl, Lib.hid fun j h1 h2 => absurd h1 (by omega)⟩
  case round =>
    obtain ⟨t, ht1, ht2, rfl, hmin⟩ := hrel
    obtain ⟨s1, s2, s3, s4⟩ := sq_bd ht2 hq1 hq2
    by_cases hlt : p < (t : Int) * t * q
    · have E := Lib.hid (HE.out t ht1 ht2 hlt hmin.out)
      have hd : decide ((t : Int) * t * q ≤ p) = false := decide_eq_false (by omega)
      clear hlt
      go_wp2
      go_ret
      exact ⟨ret_int (by rw [E.out]), by rw [E.out]; exact ht1, by rw [E.out]; exact ht2, b0⟩
    · have hle : (t : Int) * t * q ≤ p := by omega
      have ht3 : t < 101 := by
        rcases Nat.lt_or_ge t 101 with h9 | h9
        · exact h9
        · obtain rfl : t = 101 := by omega
          omega
      have hm2 : Hid (∀ j : Nat, 1 ≤ j → j < t + 1 → (j : Int) * j * q ≤ p) := Lib.hid fun j h1 h2 => by
        rcases Nat.lt_or_ge j t with h9 | h9
        · exact hmin.out j h1 h9
        · obtain rfl : j = t := by omega
          exact hle
      clear hlt hmin
      go_wp2
      go_round
      case rel => exact ⟨t + 1, by omega, by omega, by go_num, hm2⟩
      case measure => simp [intOf]; omega
end Go.Proofs.Ytfkdmddfadkjoaa
