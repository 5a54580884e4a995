/- Lowest terms: the program's reduced, the reference's fMake; products, quotients and differences of fractions. -/
import Derived.Test.YtfanpbfmnckmnaaGreatFracB
namespace Go.Proofs.YtfanpbfmnckmnaaGreat
open Go.RowKit

/-- n/d in lowest terms, if it is small enough. -/
def redP (n d : Int) : Int := if d.tdiv (Int.gcd n d : Nat) < 0 then -(n.tdiv (Int.gcd n d : Nat)) else n.tdiv (Int.gcd n d : Nat)
def redQ (n d : Int) : Int := if d.tdiv (Int.gcd n d : Nat) < 0 then -(d.tdiv (Int.gcd n d : Nat)) else d.tdiv (Int.gcd n d : Nat)
def redO (n d : Int) : Option (Int × Int) := if d = 0 then none else if -1000000000 ≤ redP n d ∧ redP n d ≤ 1000000000 ∧ redQ n d ≤ 1000000000 then some (redP n d, redQ n d) else none
def fN : Option (Int × Int) → Int
  | some (p, _) => p
  | none => 0
def fD : Option (Int × Int) → Int
  | some (_, q) => q
  | none => 0
def fB : Option (Int × Int) → Bool
  | some _ => true
  | none => false
theorem fr_yes {R : Option (Int × Int)} {p q : Int} (h : R = some (p, q)) : Ending.returned (.tuple #[.agg #[.int .i64 p, .int .i64 q], .bool true]) = .returned (.tuple #[.agg #[.int .i64 (fN R), .int .i64 (fD R)], .bool (fB R)]) := by subst h; rfl
theorem fr_no {R : Option (Int × Int)} (h : R = none) : Ending.returned (.tuple #[.agg #[.int .i64 0, .int .i64 0], .bool false]) = .returned (.tuple #[.agg #[.int .i64 (fN R), .int .i64 (fD R)], .bool (fB R)]) := by subst h; rfl

theorem gcd_pos {n d : Int} (hd : d ≠ 0) : 1 ≤ ((Int.gcd n d : Nat) : Int) := by
  have : 0 < Int.gcd n d := Int.gcd_pos_of_ne_zero_right _ hd
  omega
theorem tdiv_abs (n g : Int) (_hg : 1 ≤ g) : (n.tdiv g).natAbs ≤ n.natAbs := by
  rw [Int.natAbs_tdiv]
  exact Nat.div_le_self _ _
theorem tdiv_ne {n d : Int} (hd : d ≠ 0) : d.tdiv (Int.gcd n d : Nat) ≠ 0 := by
  intro h
  have h1 : ((Int.gcd n d : Nat) : Int) ∣ d := Int.gcd_dvd_right ..
  have h2 := Int.tdiv_mul_cancel h1
  rw [h] at h2
  simp at h2
  exact hd h2.symm
theorem tdiv_sign {n d : Int} (hd : d ≠ 0) : d.tdiv (Int.gcd n d : Nat) < 0 ↔ d < 0 := by
  have h1 : ((Int.gcd n d : Nat) : Int) ∣ d := Int.gcd_dvd_right ..
  have h2 := Int.tdiv_mul_cancel h1
  have h3 := gcd_pos (n := n) hd
  have h4 := tdiv_ne (n := n) hd
  generalize d.tdiv (Int.gcd n d : Nat) = q at *
  generalize ((Int.gcd n d : Nat) : Int) = g at *
  constructor
  · intro h
    have : q * g < 0 := Int.mul_neg_of_neg_of_pos h (by omega)
    omega
  · intro h
    rcases Int.lt_or_le q 0 with h5 | h5
    · exact h5
    · have : 0 ≤ q * g := Int.mul_nonneg h5 (by omega)
      omega
theorem gcd_tdiv {n d : Int} (hd : d ≠ 0) : Int.gcd (n.tdiv (Int.gcd n d : Nat)) (d.tdiv (Int.gcd n d : Nat)) = 1 := by
  have h3 : 0 < Int.gcd n d := Int.gcd_pos_of_ne_zero_right _ hd
  show Nat.gcd (n.tdiv (Int.gcd n d : Nat)).natAbs (d.tdiv (Int.gcd n d : Nat)).natAbs = 1
  rw [Int.natAbs_tdiv, Int.natAbs_tdiv, Int.natAbs_natCast]
  exact Nat.gcd_div_gcd_div_gcd_of_pos_right (Int.natAbs_pos.2 hd)

theorem red_neg {n d P Q : Int} (h1 : n.tdiv (Int.gcd n d : Nat) = P) (h2 : d.tdiv (Int.gcd n d : Nat) = Q) (h : Q < 0) : redP n d = -P ∧ redQ n d = -Q := by
  unfold redP redQ; rw [h1, h2, if_pos h, if_pos h]; exact ⟨rfl, rfl⟩
theorem red_pos {n d P Q : Int} (h1 : n.tdiv (Int.gcd n d : Nat) = P) (h2 : d.tdiv (Int.gcd n d : Nat) = Q) (h : ¬ Q < 0) : redP n d = P ∧ redQ n d = Q := by
  unfold redP redQ; rw [h1, h2, if_neg h, if_neg h]; exact ⟨rfl, rfl⟩
theorem redO_yes {n d : Int} (hd : d ≠ 0) (h : -1000000000 ≤ redP n d ∧ redP n d ≤ 1000000000 ∧ redQ n d ≤ 1000000000) : redO n d = some (redP n d, redQ n d) := by unfold redO; rw [if_neg hd, if_pos h]
theorem redO_no {n d : Int} (hd : d ≠ 0) (h : ¬ (-1000000000 ≤ redP n d ∧ redP n d ≤ 1000000000 ∧ redQ n d ≤ 1000000000)) : redO n d = none := by unfold redO; rw [if_neg hd, if_neg h]
theorem red_gcd {n d : Int} (hd : d ≠ 0) : Int.gcd (redP n d) (redQ n d) = 1 := by
  have h := gcd_tdiv (n := n) hd
  unfold redP redQ
  split
  · rw [Int.neg_gcd, Int.gcd_neg]; exact h
  · exact h
theorem redQ_pos {n d : Int} (hd : d ≠ 0) : 1 ≤ redQ n d := by
  have h := tdiv_ne (n := n) hd
  unfold redQ
  split <;> omega
/-- What comes out is a valid fraction. -/
theorem redO_frac {n d p q : Int} (h : redO n d = some (p, q)) : fracB p q = true := by
  by_cases hd : d = 0
  · unfold redO at h; rw [if_pos hd] at h; cases h
  · by_cases hb : -1000000000 ≤ redP n d ∧ redP n d ≤ 1000000000 ∧ redQ n d ≤ 1000000000
    · rw [redO_yes hd hb] at h
      simp only [Option.some.injEq, Prod.mk.injEq] at h
      obtain ⟨rfl, rfl⟩ := h
      exact fracB_4 (inR_yes (redQ_pos hd) hb.2.2) (inR_yes hb.1 hb.2.1) (red_gcd hd)
    · rw [redO_no hd hb] at h; cases h

set_option maxRecDepth 100000 in
set_option maxHeartbeats 2000000 in
theorem reduced_any (n d : Int) (w : World) (hn : -9000000000000000000 ≤ n) (hn2 : n ≤ 9000000000000000000) (hd : -9000000000000000000 ≤ d) (hd2 : d ≤ 9000000000000000000) (hd0 : d ≠ 0) :
    Calls Tryz.prog 200 #[.int .i64 n, .int .i64 d] w fun e w' => e = .returned (.tuple #[.agg #[.int .i64 (fN (redO n d)), .int .i64 (fD (redO n d))], .bool (fB (redO n d))]) ∧ Below w.heap.size w w' := by
  have hG := gcd_pos (n := n) hd0
  have hP := tdiv_abs n _ hG
  have hQ := tdiv_abs d _ hG
  have hQ0 := tdiv_ne (n := n) hd0
  obtain ⟨P, hPe⟩ : ∃ P, n.tdiv (Int.gcd n d : Nat) = P := ⟨_, rfl⟩
  obtain ⟨Q, hQe⟩ : ∃ Q, d.tdiv (Int.gcd n d : Nat) = Q := ⟨_, rfl⟩
  have RN := Lib.hid (red_neg hPe hQe)
  have RP := Lib.hid (red_pos hPe hQe)
  have RY := Lib.hid (redO_yes (n := n) hd0)
  have RO := Lib.hid (redO_no (n := n) hd0)
  rw [hPe] at hP
  rw [hQe] at hQ hQ0
  have HP1 : -9000000000000000000 ≤ P := by omega
  have HP2 : P ≤ 9000000000000000000 := by omega
  have HQ1 : -9000000000000000000 ≤ Q := by omega
  have HQ2 : Q ≤ 9000000000000000000 := by omega
  have HQ0 := Lib.hid hQ0
  have hPe' := Lib.hid hPe
  have hQe' := Lib.hid hQe
  clear hP hQ hPe hQe hd0 hQ0
  have x4 := box_new w #[.int .i64 0, .int .i64 0] 40
  have b4 := below_new w (.cells #[.int .i64 0, .int .i64 0] 40)
  go_enter Tryz.func200, Tryz.ntmps200
  go_wp2_with fail
  generalize w.alloc (.cells #[.int .i64 0, .int .i64 0] 40) = w0 at *
  refine (gcdOf_any _ _ _ hn hn2 hd hd2).mono ?_
  rintro e w1 ⟨rfl, b1⟩
  replace x4 := box_below x4 b1
  replace b1 := b4.trans (b1.mono b4.size)
  clear b4
  have d0 := box_cell x4 0 _ rfl
  have d1 := box_cell x4 1 _ rfl
  have f0 := box_free x4 0
  have f1 := box_free x4 1
  generalize ((Int.gcd n d : Nat) : Int) = G at *
  have t1 : -9000000000000000000 ≤ n.tdiv G := by rw [hPe'.out]; exact HP1
  have t2 : n.tdiv G ≤ 9000000000000000000 := by rw [hPe'.out]; exact HP2
  have t3 : -9000000000000000000 ≤ d.tdiv G := by rw [hQe'.out]; exact HQ1
  have t4 : d.tdiv G ≤ 9000000000000000000 := by rw [hQe'.out]; exact HQ2
  go_wp2
  go_quiet (fail)
  rw [hPe'.out, hQe'.out]
  clear t1 t2 t3 t4 hG d0 d1 f0 f1
  replace x4 := box_below x4 (below_drewN (Below.refl w1.heap.size w1) nq)
  replace b1 := below_drewN b1 nq
  generalize w1.drewN nq = w2 at *
  have d0 := box_cell x4 0 _ rfl
  have d1 := box_cell x4 1 _ rfl
  have f0 := box_free x4 0
  have f1 := box_free x4 1
  by_cases hneg : Q < 0
  · obtain ⟨EP, EQ⟩ := RN.out hneg
    rw [EP, EQ] at RY RO
    clear EP EQ RN RP
    by_cases h1 : 1000000000 < (-P)
    · have R := Lib.hid (RO.out (by omega))
      have y4 := store_two x4 (.int .i64 0) (.int .i64 0)
      have e0 := box_cell y4 0 _ rfl
      have e1 := box_cell y4 1 _ rfl
      go_wp2
      refine bodyPost_ret (v := .tuple #[.agg #[.int .i64 0, .int .i64 0], .bool false]) (by simp [results, Tryz.results200, go_sem, e0, e1]) rfl ⟨fr_no R.out, below_two b1 (by omega)⟩
    · by_cases h2 : (-P) < -1000000000
      · have R := Lib.hid (RO.out (by omega))
        have y4 := store_two x4 (.int .i64 0) (.int .i64 0)
        have e0 := box_cell y4 0 _ rfl
        have e1 := box_cell y4 1 _ rfl
        go_wp2
        refine bodyPost_ret (v := .tuple #[.agg #[.int .i64 0, .int .i64 0], .bool false]) (by simp [results, Tryz.results200, go_sem, e0, e1]) rfl ⟨fr_no R.out, below_two b1 (by omega)⟩
      · by_cases h3 : 1000000000 < (-Q)
        · have R := Lib.hid (RO.out (by omega))
          have y4 := store_two x4 (.int .i64 0) (.int .i64 0)
          have e0 := box_cell y4 0 _ rfl
          have e1 := box_cell y4 1 _ rfl
          go_wp2
          refine bodyPost_ret (v := .tuple #[.agg #[.int .i64 0, .int .i64 0], .bool false]) (by simp [results, Tryz.results200, go_sem, e0, e1]) rfl ⟨fr_no R.out, below_two b1 (by omega)⟩
        · have R := Lib.hid (RY.out ⟨by omega, by omega, by omega⟩)
          have y4 := store_two x4 (.int .i64 (-P)) (.int .i64 (-Q))
          have e0 := box_cell y4 0 _ rfl
          have e1 := box_cell y4 1 _ rfl
          go_wp2
          refine bodyPost_ret (v := .tuple #[.agg #[.int .i64 (-P), .int .i64 (-Q)], .bool true]) (by simp [results, Tryz.results200, go_sem, e0, e1]) rfl ⟨fr_yes R.out, below_two b1 (by omega)⟩
  · obtain ⟨EP, EQ⟩ := RP.out (by omega)
    rw [EP, EQ] at RY RO
    clear EP EQ RN RP
    by_cases h1 : 1000000000 < P
    · have R := Lib.hid (RO.out (by omega))
      have y4 := store_two x4 (.int .i64 0) (.int .i64 0)
      have e0 := box_cell y4 0 _ rfl
      have e1 := box_cell y4 1 _ rfl
      go_wp2
      refine bodyPost_ret (v := .tuple #[.agg #[.int .i64 0, .int .i64 0], .bool false]) (by simp [results, Tryz.results200, go_sem, e0, e1]) rfl ⟨fr_no R.out, below_two b1 (by omega)⟩
    · by_cases h2 : P < -1000000000
      · have R := Lib.hid (RO.out (by omega))
        have y4 := store_two x4 (.int .i64 0) (.int .i64 0)
        have e0 := box_cell y4 0 _ rfl
        have e1 := box_cell y4 1 _ rfl
        go_wp2
        refine bodyPost_ret (v := .tuple #[.agg #[.int .i64 0, .int .i64 0], .bool false]) (by simp [results, Tryz.results200, go_sem, e0, e1]) rfl ⟨fr_no R.out, below_two b1 (by omega)⟩
      · by_cases h3 : 1000000000 < Q
        · have R := Lib.hid (RO.out (by omega))
          have y4 := store_two x4 (.int .i64 0) (.int .i64 0)
          have e0 := box_cell y4 0 _ rfl
          have e1 := box_cell y4 1 _ rfl
          go_wp2
          refine bodyPost_ret (v := .tuple #[.agg #[.int .i64 0, .int .i64 0], .bool false]) (by simp [results, Tryz.results200, go_sem, e0, e1]) rfl ⟨fr_no R.out, below_two b1 (by omega)⟩
        · have R := Lib.hid (RY.out ⟨by omega, by omega, by omega⟩)
          have y4 := store_two x4 (.int .i64 P) (.int .i64 Q)
          have e0 := box_cell y4 0 _ rfl
          have e1 := box_cell y4 1 _ rfl
          go_wp2
          refine bodyPost_ret (v := .tuple #[.agg #[.int .i64 P, .int .i64 Q], .bool true]) (by simp [results, Tryz.results200, go_sem, e0, e1]) rfl ⟨fr_yes R.out, below_two b1 (by omega)⟩
end Go.Proofs.YtfanpbfmnckmnaaGreat
