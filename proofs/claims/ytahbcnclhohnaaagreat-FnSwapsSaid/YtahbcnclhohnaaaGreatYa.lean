/- Several small texts in one: Gcd, FracB, RedB, FopB, Cut. -/
import Derived.Test.YtahbcnclhohnaaaGreatYw
import Derived.Test.YtahbcnclhohnaaaGreatZa
namespace Go.Proofs.YtahbcnclhohnaaaGreat

section
open Go.RowKit

theorem gcd_round (m n : Nat) : Nat.gcd m n = Nat.gcd n (m % n) := by
  rw [Nat.gcd_comm m n, Nat.gcd_rec n m, Nat.gcd_comm]
theorem tmod_natAbs (x y : Int) : (x.tmod y).natAbs = x.natAbs % y.natAbs := Int.natAbs_tmod x y

set_option maxHeartbeats 800000 in
theorem gcdOf_any (a b : Int) (w : World) (ha : -9000000000000000000 ≤ a) (ha2 : a ≤ 9000000000000000000) (hb : -9000000000000000000 ≤ b) (hb2 : b ≤ 9000000000000000000) :
    Calls Tryz.prog 73 #[.int .i64 a, .int .i64 b] w fun e w' => e = .returned (.int .i64 (Int.gcd a b : Nat)) ∧ Below w.heap.size w w' := by
  have HG := Lib.hid (show Int.gcd a b = Nat.gcd a.natAbs b.natAbs from rfl)
  generalize Int.gcd a b = G at *
  have core : ∀ (m n : Nat), m ≤ 9000000000000000000 → n ≤ 9000000000000000000 → a.natAbs = m → b.natAbs = n → Calls Tryz.prog 73 #[.int .i64 a, .int .i64 b] w fun e w' => e = .returned (.int .i64 (G : Nat)) ∧ Below w.heap.size w w' := by
    intro m n hm hn hma hnb
    have HGG := Lib.hid (show G = Nat.gcd m n by rw [HG.out, hma, hnb])
    have hA : (0 ≤ a ∧ a = m) ∨ (a < 0 ∧ -a = m) := by omega
    have hB : (0 ≤ b ∧ b = n) ∨ (b < 0 ∧ -b = n) := by omega
    clear hma hnb HG
    rcases hA with ⟨h1, h2⟩ | ⟨h1, h2⟩ <;> rcases hB with ⟨h3, h4⟩ | ⟨h3, h4⟩
    all_goals
      have H2 := Lib.hid h2
      have H4 := Lib.hid h4
      clear h2 h4
      go_enter Tryz.func73, Tryz.ntmps73
      go_wp2
      go_loopw [0, 1] (fun u v wr => ∃ (x y : Nat), x ≤ 9000000000000000000 ∧ y ≤ 9000000000000000000 ∧ u = .int .i64 x ∧ v = .int .i64 y ∧ Hid (G = Nat.gcd x y) ∧ Below w.heap.size w wr) (fun _ v _ => (intOf v).toNat)
      case atStart => exact ⟨m, n, hm, hn, val_int H2.out, val_int H4.out, HGG, Below.refl _ _⟩
      case round =>
        clear H2 H4 HGG
        obtain ⟨x, y, hx, hy, rfl, rfl, hG, hbw⟩ := hrel
        rcases Nat.eq_zero_or_pos y with h0 | h0
        · subst h0
          have E := Lib.hid (show (x : Int) = (G : Nat) by rw [hG.out, Nat.gcd_zero_right])
          go_wp2
          go_ret
          exact ⟨ret_int E.out, hbw⟩
        · have hne : ((y : Int) != 0) = true := by rw [bne_iff_ne]; omega
          have E := Lib.hid (show G = Nat.gcd y (x % y) by rw [hG.out, gcd_round])
          have hlt := Nat.mod_lt x h0
          go_wp2
          go_quiet (fail)
          go_wp2
          go_roundw
          case rel => exact ⟨y, x % y, hy, by omega, rfl, by go_num, E, below_drewN hbw _⟩
          case measure => simp [intOf]; omega
  exact core _ _ (by omega) (by omega) rfl rfl
end

section
open Go.RowKit

/-- The absolute value. -/
def absI (a : Int) : Int := (a.natAbs : Nat)
/-- The greater one. -/
def maxI (a b : Int) : Int := if b < a then a else b
set_option maxHeartbeats 400000 in
theorem l1Most_any (a b : Int) (w : World) :
    Calls Tryz.prog 126 #[.int .i64 a, .int .i64 b] w fun e w' => e = .returned (.int .i64 (maxI a b)) ∧ w = w' := by
  by_cases h : b < a
  · have E := Lib.hid (show maxI a b = a from if_pos h)
    go_enter Tryz.func126, Tryz.ntmps126
    go_wp2
    go_ret
    exact ⟨ret_int E.out.symm, rfl⟩
  · have E := Lib.hid (show maxI a b = b from if_neg h)
    go_enter Tryz.func126, Tryz.ntmps126
    go_wp2
    go_ret
    exact ⟨ret_int E.out.symm, rfl⟩

set_option maxHeartbeats 400000 in
theorem l1Abs_any (a : Int) (w : World) (h0 : -9223372036854775807 ≤ a) (h1 : a ≤ 9223372036854775807) :
    Calls Tryz.prog 106 #[.int .i64 a] w fun e w' => e = .returned (.int .i64 (absI a)) ∧ w = w' := by
  have E := Lib.hid (show maxI a (-a) = absI a by unfold absI maxI; split <;> omega)
  go_enter Tryz.func106, Tryz.ntmps106
  go_wp2_with fail
  refine (l1Most_any _ _ _).mono ?_
  rintro e w' ⟨rfl, rfl⟩
  rw [E.out]
  go_wp2
  go_ret
  exact ⟨rfl, rfl⟩

set_option maxHeartbeats 800000 in
theorem fGcd_any (a b : Int) (w : World) (ha : -9000000000000000000 ≤ a) (ha2 : a ≤ 9000000000000000000) (hb : -9000000000000000000 ≤ b) (hb2 : b ≤ 9000000000000000000) :
    Calls Tryz.prog 75 #[.int .i64 a, .int .i64 b] w fun e w' => e = .returned (.int .i64 (Int.gcd a b : Nat)) ∧ Below w.heap.size w w' := by
  have HG := Lib.hid (show Int.gcd a b = Nat.gcd a.natAbs b.natAbs from rfl)
  generalize Int.gcd a b = G at *
  go_enter Tryz.func75, Tryz.ntmps75
  go_wp2
  go_loopw [0, 1] (fun u v wr => ∃ (x y : Int), -9000000000000000000 ≤ x ∧ x ≤ 9000000000000000000 ∧ -9000000000000000000 ≤ y ∧ y ≤ 9000000000000000000 ∧ u = .int .i64 x ∧ v = .int .i64 y ∧ Hid (G = Nat.gcd x.natAbs y.natAbs) ∧ Below w.heap.size w wr) (fun _ v _ => (intOf v).natAbs)
  case atStart => exact ⟨a, b, ha, ha2, hb, hb2, rfl, rfl, HG, Below.refl _ _⟩
  case round =>
    clear HG
    obtain ⟨x, y, hx, hx2, hy, hy2, rfl, rfl, hG, hbw⟩ := hrel
    by_cases h0 : y = 0
    · subst h0
      have E := Lib.hid (show absI x = (G : Nat) by rw [hG.out]; unfold absI; rw [Int.natAbs_zero, Nat.gcd_zero_right])
      go_wp2_with fail
      refine (l1Abs_any _ _ (by omega) (by omega)).mono ?_
      rintro e w' ⟨rfl, rfl⟩
      rw [E.out]
      go_wp2
      go_ret
      exact ⟨rfl, hbw⟩
    · have hne : (y != 0) = true := by rw [bne_iff_ne]; exact h0
      have HT := tmod_natAbs x y
      have hlt := Nat.mod_lt x.natAbs (show 0 < y.natAbs by omega)
      have E := Lib.hid (show G = Nat.gcd y.natAbs (x.tmod y).natAbs by rw [hG.out, gcd_round, HT])
      have hb1 : -9000000000000000000 ≤ x.tmod y := by omega
      have hb2 : x.tmod y ≤ 9000000000000000000 := by omega
      have hm : (x.tmod y).natAbs < y.natAbs := by omega
      have h0' := Lib.hid h0
      clear HT hlt h0
      go_wp2
      go_roundw
      case rel => exact ⟨y, x.tmod y, hy, hy2, hb1, hb2, rfl, rfl, E, hbw⟩
      case measure => simpa [intOf] using hm

/-- A fraction is valid. -/
def fracB (n d : Int) : Bool := inR d 1 1000000000 && (inR n (-1000000000) 1000000000 && decide (Int.gcd n d = 1))
theorem fracB_1 {n d : Int} (h : inR d 1 1000000000 = false) : fracB n d = false := by simp [fracB, h]
theorem fracB_2 {n d : Int} (h : inR n (-1000000000) 1000000000 = false) : fracB n d = false := by simp [fracB, h]
theorem fracB_3 {n d : Int} (h : ¬ Int.gcd n d = 1) : fracB n d = false := by simp [fracB, h]
theorem fracB_4 {n d : Int} (h1 : inR d 1 1000000000 = true) (h2 : inR n (-1000000000) 1000000000 = true) (h : Int.gcd n d = 1) : fracB n d = true := by simp [fracB, h1, h2, h]
theorem fracB_of {n d : Int} (h : fracB n d = true) : 1 ≤ d ∧ d ≤ 1000000000 ∧ -1000000000 ≤ n ∧ n ≤ 1000000000 ∧ Int.gcd n d = 1 := by
  simp only [fracB, Bool.and_eq_true, decide_eq_true_eq] at h
  have h1 := inR_of h.1
  have h2 := inR_of h.2.1
  exact ⟨h1.1, h1.2, h2.1, h2.2, h.2.2⟩

set_option maxHeartbeats 800000 in
theorem fGood_any (n d : Int) (w : World) :
    Calls Tryz.prog 76 #[.agg #[.int .i64 n, .int .i64 d]] w fun e w' => e = .returned (.bool (fracB n d)) ∧ Below w.heap.size w w' := by
  go_enter Tryz.func76, Tryz.ntmps76
  go_wp2_with fail
  refine (l1In_any _ _ _ _).mono ?_
  rintro e w' ⟨rfl, rfl⟩
  cases hD : inR d 1 1000000000
  · have E := Lib.hid (fracB_1 (n := n) hD)
    clear hD
    go_wp2
    go_ret
    exact ⟨ret_bool E.out.symm, below_new _ _⟩
  · have HD := Lib.hid hD
    have hd := inR_of hD
    clear hD
    go_wp2_with fail
    refine (l1In_any _ _ _ _).mono ?_
    rintro e w' ⟨rfl, rfl⟩
    cases hN : inR n (-1000000000) 1000000000
    · have E := Lib.hid (fracB_2 (d := d) hN)
      clear hN
      go_wp2
      go_ret
      exact ⟨ret_bool E.out.symm, below_new _ _⟩
    · have HN := Lib.hid hN
      have hn := inR_of hN
      clear hN
      go_wp2_with fail
      refine (fGcd_any _ _ _ (by omega) (by omega) (by omega) (by omega)).mono ?_
      rintro e w1 ⟨rfl, hb⟩
      by_cases hg : Int.gcd n d = 1
      · have E := Lib.hid (fracB_4 HD.out HN.out hg)
        rw [hg]
        clear hg
        go_wp2
        go_ret
        exact ⟨ret_bool E.out.symm, (below_new _ _).trans (hb.mono (by simp))⟩
      · have E := Lib.hid (fracB_3 hg)
        have hne : (((Int.gcd n d : Nat) : Int) == 1) = false := by rw [beq_eq_false_iff_ne]; omega
        clear hg
        go_wp2
        go_ret
        exact ⟨ret_bool E.out.symm, (below_new _ _).trans (hb.mono (by simp))⟩
end

section
open Go.RowKit

/-- n/d in lowest terms, if it is small enough. -/
def redP (n d : Int) : Int := if d.tdiv (Int.gcd n d : Nat) < 0 then -(n.tdiv (Int.gcd n d : Nat)) else n.tdiv (Int.gcd n d : Nat)
def redQ (n d : Int) : Int := if d.tdiv (Int.gcd n d : Nat) < 0 then -(d.tdiv (Int.gcd n d : Nat)) else d.tdiv (Int.gcd n d : Nat)
def redO (n d : Int) : Option (Int × Int) := if d = 0 then none else if -1000000000 ≤ redP n d ∧ redP n d ≤ 1000000000 ∧ redQ n d ≤ 1000000000 then some (redP n d, redQ n d) else none
def fN : Option (Int × Int) → Int
  | some (p, _) => p
  | none => 0
def fD : Option (Int × Int) → Int
  | some (_, q) => q
  | none => 0
def fB : Option (Int × Int) → Bool
  | some _ => true
  | none => false
theorem fr_yes {R : Option (Int × Int)} {p q : Int} (h : R = some (p, q)) : Ending.returned (.tuple #[.agg #[.int .i64 p, .int .i64 q], .bool true]) = .returned (.tuple #[.agg #[.int .i64 (fN R), .int .i64 (fD R)], .bool (fB R)]) := by subst h; rfl
theorem fr_no {R : Option (Int × Int)} (h : R = none) : Ending.returned (.tuple #[.agg #[.int .i64 0, .int .i64 0], .bool false]) = .returned (.tuple #[.agg #[.int .i64 (fN R), .int .i64 (fD R)], .bool (fB R)]) := by subst h; rfl

theorem gcd_pos {n d : Int} (hd : d ≠ 0) : 1 ≤ ((Int.gcd n d : Nat) : Int) := by
  have : 0 < Int.gcd n d := Int.gcd_pos_of_ne_zero_right _ hd
  omega
theorem tdiv_abs (n g : Int) (_hg : 1 ≤ g) : (n.tdiv g).natAbs ≤ n.natAbs := by
  rw [Int.natAbs_tdiv]
  exact Nat.div_le_self _ _
theorem tdiv_ne {n d : Int} (hd : d ≠ 0) : d.tdiv (Int.gcd n d : Nat) ≠ 0 := by
  intro h
  have h1 : ((Int.gcd n d : Nat) : Int) ∣ d := Int.gcd_dvd_right ..
  have h2 := Int.tdiv_mul_cancel h1
  rw [h] at h2
  simp at h2
  exact hd h2.symm
theorem tdiv_sign {n d : Int} (hd : d ≠ 0) : d.tdiv (Int.gcd n d : Nat) < 0 ↔ d < 0 := by
  have h1 : ((Int.gcd n d : Nat) : Int) ∣ d := Int.gcd_dvd_right ..
  have h2 := Int.tdiv_mul_cancel h1
  have h3 := gcd_pos (n := n) hd
  have h4 := tdiv_ne (n := n) hd
  generalize d.tdiv (Int.gcd n d : Nat) = q at *
  generalize ((Int.gcd n d : Nat) : Int) = g at *
  constructor
  · intro h
    have : q * g < 0 := Int.mul_neg_of_neg_of_pos h (by omega)
    omega
  · intro h
    rcases Int.lt_or_le q 0 with h5 | h5
    · exact h5
    · have : 0 ≤ q * g := Int.mul_nonneg h5 (by omega)
      omega
theorem gcd_tdiv {n d : Int} (hd : d ≠ 0) : Int.gcd (n.tdiv (Int.gcd n d : Nat)) (d.tdiv (Int.gcd n d : Nat)) = 1 := by
  have h3 : 0 < Int.gcd n d := Int.gcd_pos_of_ne_zero_right _ hd
  show Nat.gcd (n.tdiv (Int.gcd n d : Nat)).natAbs (d.tdiv (Int.gcd n d : Nat)).natAbs = 1
  rw [Int.natAbs_tdiv, Int.natAbs_tdiv, Int.natAbs_natCast]
  exact Nat.gcd_div_gcd_div_gcd_of_pos_right (Int.natAbs_pos.2 hd)

theorem red_neg {n d P Q : Int} (h1 : n.tdiv (Int.gcd n d : Nat) = P) (h2 : d.tdiv (Int.gcd n d : Nat) = Q) (h : Q < 0) : redP n d = -P ∧ redQ n d = -Q := by
  unfold redP redQ; rw [h1, h2, if_pos h, if_pos h]; exact ⟨rfl, rfl⟩
theorem red_pos {n d P Q : Int} (h1 : n.tdiv (Int.gcd n d : Nat) = P) (h2 : d.tdiv (Int.gcd n d : Nat) = Q) (h : ¬ Q < 0) : redP n d = P ∧ redQ n d = Q := by
  unfold redP redQ; rw [h1, h2, if_neg h, if_neg h]; exact ⟨rfl, rfl⟩
theorem redO_yes {n d : Int} (hd : d ≠ 0) (h : -1000000000 ≤ redP n d ∧ redP n d ≤ 1000000000 ∧ redQ n d ≤ 1000000000) : redO n d = some (redP n d, redQ n d) := by unfold redO; rw [if_neg hd, if_pos h]
theorem redO_no {n d : Int} (hd : d ≠ 0) (h : ¬ (-1000000000 ≤ redP n d ∧ redP n d ≤ 1000000000 ∧ redQ n d ≤ 1000000000)) : redO n d = none := by unfold redO; rw [if_neg hd, if_neg h]
theorem red_gcd {n d : Int} (hd : d ≠ 0) : Int.gcd (redP n d) (redQ n d) = 1 := by
  have h := gcd_tdiv (n := n) hd
  unfold redP redQ
  split
  · rw [Int.neg_gcd, Int.gcd_neg]; exact h
  · exact h
theorem redQ_pos {n d : Int} (hd : d ≠ 0) : 1 ≤ redQ n d := by
  have h := tdiv_ne (n := n) hd
  unfold redQ
  split <;> omega
/-- What comes out is a valid fraction. -/
theorem redO_frac {n d p q : Int} (h : redO n d = some (p, q)) : fracB p q = true := by
  by_cases hd : d = 0
  · unfold redO at h; rw [if_pos hd] at h; cases h
  · by_cases hb : -1000000000 ≤ redP n d ∧ redP n d ≤ 1000000000 ∧ redQ n d ≤ 1000000000
    · rw [redO_yes hd hb] at h
      simp only [Option.some.injEq, Prod.mk.injEq] at h
      obtain ⟨rfl, rfl⟩ := h
      exact fracB_4 (inR_yes (redQ_pos hd) hb.2.2) (inR_yes hb.1 hb.2.1) (red_gcd hd)
    · rw [redO_no hd hb] at h; cases h

set_option maxRecDepth 100000 in
set_option maxHeartbeats 2000000 in
theorem reduced_any (n d : Int) (w : World) (hn : -9000000000000000000 ≤ n) (hn2 : n ≤ 9000000000000000000) (hd : -9000000000000000000 ≤ d) (hd2 : d ≤ 9000000000000000000) (hd0 : d ≠ 0) :
    Calls Tryz.prog 49 #[.int .i64 n, .int .i64 d] w fun e w' => e = .returned (.tuple #[.agg #[.int .i64 (fN (redO n d)), .int .i64 (fD (redO n d))], .bool (fB (redO n d))]) ∧ Below w.heap.size w w' := by
  have hG := gcd_pos (n := n) hd0
  have hP := tdiv_abs n _ hG
  have hQ := tdiv_abs d _ hG
  have hQ0 := tdiv_ne (n := n) hd0
  obtain ⟨P, hPe⟩ : ∃ P, n.tdiv (Int.gcd n d : Nat) = P := ⟨_, rfl⟩
  obtain ⟨Q, hQe⟩ : ∃ Q, d.tdiv (Int.gcd n d : Nat) = Q := ⟨_, rfl⟩
  have RN := Lib.hid (red_neg hPe hQe)
  have RP := Lib.hid (red_pos hPe hQe)
  have RY := Lib.hid (redO_yes (n := n) hd0)
  have RO := Lib.hid (redO_no (n := n) hd0)
  rw [hPe] at hP
  rw [hQe] at hQ hQ0
  have HP1 : -9000000000000000000 ≤ P := by omega
  have HP2 : P ≤ 9000000000000000000 := by omega
  have HQ1 : -9000000000000000000 ≤ Q := by omega
  have HQ2 : Q ≤ 9000000000000000000 := by omega
  have HQ0 := Lib.hid hQ0
  have hPe' := Lib.hid hPe
  have hQe' := Lib.hid hQe
  clear hP hQ hPe hQe hd0 hQ0
  have x4 := box_new w #[.int .i64 0, .int .i64 0] 46
  have b4 := below_new w (.cells #[.int .i64 0, .int .i64 0] 46)
  go_enter Tryz.func49, Tryz.ntmps49
  go_wp2_with fail
  generalize w.alloc (.cells #[.int .i64 0, .int .i64 0] 46) = w0 at *
  refine (gcdOf_any _ _ _ hn hn2 hd hd2).mono ?_
  rintro e w1 ⟨rfl, b1⟩
  replace x4 := box_below x4 b1
  replace b1 := b4.trans (b1.mono b4.size)
  clear b4
  have d0 := box_cell x4 0 _ rfl
  have d1 := box_cell x4 1 _ rfl
  have f0 := box_free x4 0
  have f1 := box_free x4 1
  generalize ((Int.gcd n d : Nat) : Int) = G at *
  have t1 : -9000000000000000000 ≤ n.tdiv G := by rw [hPe'.out]; exact HP1
  have t2 : n.tdiv G ≤ 9000000000000000000 := by rw [hPe'.out]; exact HP2
  have t3 : -9000000000000000000 ≤ d.tdiv G := by rw [hQe'.out]; exact HQ1
  have t4 : d.tdiv G ≤ 9000000000000000000 := by rw [hQe'.out]; exact HQ2
  go_wp2
  go_quiet (fail)
  rw [hPe'.out, hQe'.out]
  clear t1 t2 t3 t4 hG d0 d1 f0 f1
  replace x4 := box_below x4 (below_drewN (Below.refl w1.heap.size w1) nq)
  replace b1 := below_drewN b1 nq
  generalize w1.drewN nq = w2 at *
  have d0 := box_cell x4 0 _ rfl
  have d1 := box_cell x4 1 _ rfl
  have f0 := box_free x4 0
  have f1 := box_free x4 1
  by_cases hneg : Q < 0
  · obtain ⟨EP, EQ⟩ := RN.out hneg
    rw [EP, EQ] at RY RO
    clear EP EQ RN RP
    by_cases h1 : 1000000000 < (-P)
    · have R := Lib.hid (RO.out (by omega))
      have y4 := store_two x4 (.int .i64 0) (.int .i64 0)
      have e0 := box_cell y4 0 _ rfl
      have e1 := box_cell y4 1 _ rfl
      go_wp2
      refine bodyPost_ret (v := .tuple #[.agg #[.int .i64 0, .int .i64 0], .bool false]) (by simp [results, Tryz.results49, go_sem, e0, e1]) rfl ⟨fr_no R.out, below_two b1 (by omega)⟩
    · by_cases h2 : (-P) < -1000000000
      · have R := Lib.hid (RO.out (by omega))
        have y4 := store_two x4 (.int .i64 0) (.int .i64 0)
        have e0 := box_cell y4 0 _ rfl
        have e1 := box_cell y4 1 _ rfl
        go_wp2
        refine bodyPost_ret (v := .tuple #[.agg #[.int .i64 0, .int .i64 0], .bool false]) (by simp [results, Tryz.results49, go_sem, e0, e1]) rfl ⟨fr_no R.out, below_two b1 (by omega)⟩
      · by_cases h3 : 1000000000 < (-Q)
        · have R := Lib.hid (RO.out (by omega))
          have y4 := store_two x4 (.int .i64 0) (.int .i64 0)
          have e0 := box_cell y4 0 _ rfl
          have e1 := box_cell y4 1 _ rfl
          go_wp2
          refine bodyPost_ret (v := .tuple #[.agg #[.int .i64 0, .int .i64 0], .bool false]) (by simp [results, Tryz.results49, go_sem, e0, e1]) rfl ⟨fr_no R.out, below_two b1 (by omega)⟩
        · have R := Lib.hid (RY.out ⟨by omega, by omega, by omega⟩)
          have y4 := store_two x4 (.int .i64 (-P)) (.int .i64 (-Q))
          have e0 := box_cell y4 0 _ rfl
          have e1 := box_cell y4 1 _ rfl
          go_wp2
          refine bodyPost_ret (v := .tuple #[.agg #[.int .i64 (-P), .int .i64 (-Q)], .bool true]) (by simp [results, Tryz.results49, go_sem, e0, e1]) rfl ⟨fr_yes R.out, below_two b1 (by omega)⟩
  · obtain ⟨EP, EQ⟩ := RP.out (by omega)
    rw [EP, EQ] at RY RO
    clear EP EQ RN RP
    by_cases h1 : 1000000000 < P
    · have R := Lib.hid (RO.out (by omega))
      have y4 := store_two x4 (.int .i64 0) (.int .i64 0)
      have e0 := box_cell y4 0 _ rfl
      have e1 := box_cell y4 1 _ rfl
      go_wp2
      refine bodyPost_ret (v := .tuple #[.agg #[.int .i64 0, .int .i64 0], .bool false]) (by simp [results, Tryz.results49, go_sem, e0, e1]) rfl ⟨fr_no R.out, below_two b1 (by omega)⟩
    · by_cases h2 : P < -1000000000
      · have R := Lib.hid (RO.out (by omega))
        have y4 := store_two x4 (.int .i64 0) (.int .i64 0)
        have e0 := box_cell y4 0 _ rfl
        have e1 := box_cell y4 1 _ rfl
        go_wp2
        refine bodyPost_ret (v := .tuple #[.agg #[.int .i64 0, .int .i64 0], .bool false]) (by simp [results, Tryz.results49, go_sem, e0, e1]) rfl ⟨fr_no R.out, below_two b1 (by omega)⟩
      · by_cases h3 : 1000000000 < Q
        · have R := Lib.hid (RO.out (by omega))
          have y4 := store_two x4 (.int .i64 0) (.int .i64 0)
          have e0 := box_cell y4 0 _ rfl
          have e1 := box_cell y4 1 _ rfl
          go_wp2
          refine bodyPost_ret (v := .tuple #[.agg #[.int .i64 0, .int .i64 0], .bool false]) (by simp [results, Tryz.results49, go_sem, e0, e1]) rfl ⟨fr_no R.out, below_two b1 (by omega)⟩
        · have R := Lib.hid (RY.out ⟨by omega, by omega, by omega⟩)
          have y4 := store_two x4 (.int .i64 P) (.int .i64 Q)
          have e0 := box_cell y4 0 _ rfl
          have e1 := box_cell y4 1 _ rfl
          go_wp2
          refine bodyPost_ret (v := .tuple #[.agg #[.int .i64 P, .int .i64 Q], .bool true]) (by simp [results, Tryz.results49, go_sem, e0, e1]) rfl ⟨fr_yes R.out, below_two b1 (by omega)⟩
end

section
open Go.RowKit

theorem make_neg {n d : Int} (h : d < 0) : n.tdiv (-((Int.gcd n d : Nat) : Int)) = redP n d ∧ d.tdiv (-((Int.gcd n d : Nat) : Int)) = redQ n d := by
  have h1 := (tdiv_sign (n := n) (d := d) (by omega)).2 h
  unfold redP redQ
  rw [if_pos h1, if_pos h1, Int.tdiv_neg, Int.tdiv_neg]
  exact ⟨rfl, rfl⟩
theorem make_pos {n d : Int} (hd : d ≠ 0) (h : ¬ d < 0) : n.tdiv ((Int.gcd n d : Nat) : Int) = redP n d ∧ d.tdiv ((Int.gcd n d : Nat) : Int) = redQ n d := by
  have h1 : ¬ d.tdiv (Int.gcd n d : Nat) < 0 := fun h2 => h ((tdiv_sign hd).1 h2)
  unfold redP redQ
  rw [if_neg h1, if_neg h1]
  exact ⟨rfl, rfl⟩
theorem redO_zero (n : Int) : redO n 0 = none := by unfold redO; rw [if_pos rfl]
theorem redO_good {n d : Int} (hd : d ≠ 0) (h : fracB (redP n d) (redQ n d) = true) : redO n d = some (redP n d, redQ n d) := by
  have := fracB_of h
  exact redO_yes hd ⟨this.2.2.1, this.2.2.2.1, this.2.1⟩
theorem redO_bad {n d : Int} (hd : d ≠ 0) (h : fracB (redP n d) (redQ n d) = false) : redO n d = none := by
  refine redO_no hd fun hb => ?_
  rw [fracB_4 (inR_yes (redQ_pos hd) hb.2.2) (inR_yes hb.1 hb.2.1) (red_gcd hd)] at h
  cases h
theorem redP_bd {n d : Int} (hd : d ≠ 0) (h0 : -9000000000000000000 ≤ n) (h1 : n ≤ 9000000000000000000) : -9000000000000000000 ≤ redP n d ∧ redP n d ≤ 9000000000000000000 := by
  have := tdiv_abs n _ (gcd_pos (n := n) hd)
  unfold redP; split <;> omega
theorem redQ_bd {n d : Int} (hd : d ≠ 0) (h0 : -9000000000000000000 ≤ d) (h1 : d ≤ 9000000000000000000) : -9000000000000000000 ≤ redQ n d ∧ redQ n d ≤ 9000000000000000000 := by
  have := tdiv_abs d _ (gcd_pos (n := n) hd)
  unfold redQ; split <;> omega
theorem mulN_bd {a b : Int} (A B : Nat) (ha : a.natAbs ≤ A) (hb : b.natAbs ≤ B) : (a * b).natAbs ≤ A * B := by
  rw [Int.natAbs_mul]; exact Nat.mul_le_mul ha hb
theorem gcd_ne {n d : Int} (hd : d ≠ 0) : ¬ ((Int.gcd n d : Nat) : Int) = 0 := by have := gcd_pos (n := n) hd; omega

set_option maxRecDepth 100000 in
set_option maxHeartbeats 2000000 in
theorem fMake_any (n d : Int) (w : World) (hn : -9000000000000000000 ≤ n) (hn2 : n ≤ 9000000000000000000) (hd : -9000000000000000000 ≤ d) (hd2 : d ≤ 9000000000000000000) :
    Calls Tryz.prog 52 #[.int .i64 n, .int .i64 d] w fun e w' => e = .returned (.tuple #[.agg #[.int .i64 (fN (redO n d)), .int .i64 (fD (redO n d))], .bool (fB (redO n d))]) ∧ Below w.heap.size w w' := by
  have x4 := box_new w #[.int .i64 0, .int .i64 0] 46
  have b4 := below_new w (.cells #[.int .i64 0, .int .i64 0] 46)
  by_cases hd0 : d = 0
  · subst hd0
    have R := Lib.hid (redO_zero n)
    go_enter Tryz.func52, Tryz.ntmps52
    go_wp2
    refine bodyPost_ret (v := .tuple #[.agg #[.int .i64 0, .int .i64 0], .bool false]) (by simp [results, Tryz.results52, go_sem]) rfl ⟨fr_no R.out, b4⟩
  · have RY := Lib.hid (redO_good (n := n) hd0)
    have RO := Lib.hid (redO_bad (n := n) hd0)
    have RP := redP_bd hd0 hn hn2
    have RQ := redQ_bd (n := n) hd0 hd hd2
    have G1 := gcd_pos (n := n) hd0
    have hP1 := RP.1
    have hP2 := RP.2
    have hQ1 := RQ.1
    have hQ2 := RQ.2
    clear RP RQ
    have MN := Lib.hid (make_neg (n := n) (d := d))
    have MP := Lib.hid (make_pos (n := n) hd0)
    have G2 : ((Int.gcd n d : Nat) : Int) ≤ 9000000000000000000 := by
      have h1 : Int.gcd n d ≤ d.natAbs := Nat.le_of_dvd (by omega) (Int.gcd_dvd_natAbs_right n d)
      omega
    go_enter Tryz.func52, Tryz.ntmps52
    go_wp2_with fail
    generalize w.alloc (.cells #[.int .i64 0, .int .i64 0] 46) = w0 at *
    refine (fGcd_any _ _ _ hn hn2 hd hd2).mono ?_
    rintro e w1 ⟨rfl, b1⟩
    replace x4 := box_below x4 b1
    replace b1 := b4.trans (b1.mono b4.size)
    clear b4
    generalize ((Int.gcd n d : Nat) : Int) = G at *
    generalize redP n d = P at *
    generalize redQ n d = Q at *
    by_cases hneg : d < 0
    · have t1 : -n.tdiv G = P := (by have := (MN.out hneg).1; rw [Int.tdiv_neg] at this; exact this)
      have t2 : -d.tdiv G = Q := (by have := (MN.out hneg).2; rw [Int.tdiv_neg] at this; exact this)
      have u1 : -9000000000000000000 ≤ -n.tdiv G := by omega
      have u2 : -n.tdiv G ≤ 9000000000000000000 := by omega
      have u3 : -9000000000000000000 ≤ -d.tdiv G := by omega
      have u4 : -d.tdiv G ≤ 9000000000000000000 := by omega
      replace t1 := Lib.hid t1
      replace t2 := Lib.hid t2
      clear MN MP
      go_wp2
      go_region
      rw [t1.out, t2.out]
      clear t1 t2 u1 u2 u3 u4
      have b2 := (below_new w1 (.cells #[.int .i64 P, .int .i64 Q] 46)).drew
      have x7 := box_below (box_new w1 #[.int .i64 P, .int .i64 Q] 46) (Below.refl (w1.alloc (.cells #[.int .i64 P, .int .i64 Q] 46)).heap.size _).drew
      replace x4 := box_below x4 b2
      have h4 := b1.size
      replace b2 := b1.trans (b2.mono b1.size)
      generalize (w1.alloc (.cells #[.int .i64 P, .int .i64 Q] 46)).drew = w2 at *
      clear b1
      have c0 := box_cell x7 0 _ rfl
      have c1 := box_cell x7 1 _ rfl
      go_wp2_with fail
      refine (fGood_any _ _ _).mono ?_
      rintro e w3 ⟨rfl, b3⟩
      replace x4 := box_below x4 b3
      replace x7 := box_below x7 b3
      replace b3 := b2.trans (b3.mono b2.size)
      clear b2 c0 c1
      have d0 := box_cell x4 0 _ rfl
      have d1 := box_cell x4 1 _ rfl
      have f0 := box_free x4 0
      have f1 := box_free x4 1
      have c0 := box_cell x7 0 _ rfl
      have c1 := box_cell x7 1 _ rfl
      cases hB : fracB P Q
      · have R := Lib.hid (RO.out hB)
        clear hB RY RO
        have y4 := store_two x4 (.int .i64 0) (.int .i64 0)
        have e0 := box_cell y4 0 _ rfl
        have e1 := box_cell y4 1 _ rfl
        go_wp2
        refine bodyPost_ret (v := .tuple #[.agg #[.int .i64 0, .int .i64 0], .bool false]) (by simp [results, Tryz.results52, go_sem, e0, e1]) rfl ⟨fr_no R.out, below_two b3 (by omega)⟩
      · have R := Lib.hid (RY.out hB)
        clear hB RY RO
        have y4 := store_two x4 (.int .i64 P) (.int .i64 Q)
        have e0 := box_cell y4 0 _ rfl
        have e1 := box_cell y4 1 _ rfl
        go_wp2
        refine bodyPost_ret (v := .tuple #[.agg #[.int .i64 P, .int .i64 Q], .bool true]) (by simp [results, Tryz.results52, go_sem, e0, e1]) rfl ⟨fr_yes R.out, below_two b3 (by omega)⟩
    · have t1 : n.tdiv G = P := (by have := (MP.out (by omega)).1; exact this)
      have t2 : d.tdiv G = Q := (by have := (MP.out (by omega)).2; exact this)
      have u1 : -9000000000000000000 ≤ n.tdiv G := by omega
      have u2 : n.tdiv G ≤ 9000000000000000000 := by omega
      have u3 : -9000000000000000000 ≤ d.tdiv G := by omega
      have u4 : d.tdiv G ≤ 9000000000000000000 := by omega
      replace t1 := Lib.hid t1
      replace t2 := Lib.hid t2
      clear MN MP
      go_wp2
      go_region
      rw [t1.out, t2.out]
      clear t1 t2 u1 u2 u3 u4
      have b2 := (below_new w1 (.cells #[.int .i64 P, .int .i64 Q] 46)).drew
      have x7 := box_below (box_new w1 #[.int .i64 P, .int .i64 Q] 46) (Below.refl (w1.alloc (.cells #[.int .i64 P, .int .i64 Q] 46)).heap.size _).drew
      replace x4 := box_below x4 b2
      have h4 := b1.size
      replace b2 := b1.trans (b2.mono b1.size)
      generalize (w1.alloc (.cells #[.int .i64 P, .int .i64 Q] 46)).drew = w2 at *
      clear b1
      have c0 := box_cell x7 0 _ rfl
      have c1 := box_cell x7 1 _ rfl
      go_wp2_with fail
      refine (fGood_any _ _ _).mono ?_
      rintro e w3 ⟨rfl, b3⟩
      replace x4 := box_below x4 b3
      replace x7 := box_below x7 b3
      replace b3 := b2.trans (b3.mono b2.size)
      clear b2 c0 c1
      have d0 := box_cell x4 0 _ rfl
      have d1 := box_cell x4 1 _ rfl
      have f0 := box_free x4 0
      have f1 := box_free x4 1
      have c0 := box_cell x7 0 _ rfl
      have c1 := box_cell x7 1 _ rfl
      cases hB : fracB P Q
      · have R := Lib.hid (RO.out hB)
        clear hB RY RO
        have y4 := store_two x4 (.int .i64 0) (.int .i64 0)
        have e0 := box_cell y4 0 _ rfl
        have e1 := box_cell y4 1 _ rfl
        go_wp2
        refine bodyPost_ret (v := .tuple #[.agg #[.int .i64 0, .int .i64 0], .bool false]) (by simp [results, Tryz.results52, go_sem, e0, e1]) rfl ⟨fr_no R.out, below_two b3 (by omega)⟩
      · have R := Lib.hid (RY.out hB)
        clear hB RY RO
        have y4 := store_two x4 (.int .i64 P) (.int .i64 Q)
        have e0 := box_cell y4 0 _ rfl
        have e1 := box_cell y4 1 _ rfl
        go_wp2
        refine bodyPost_ret (v := .tuple #[.agg #[.int .i64 P, .int .i64 Q], .bool true]) (by simp [results, Tryz.results52, go_sem, e0, e1]) rfl ⟨fr_yes R.out, below_two b3 (by omega)⟩

/-- An absolute value of at most 1000000000. -/
def sm (x : Int) : Prop := x.natAbs ≤ 1000000000
theorem sm_lo {x : Int} (h : sm x) : -1000000000 ≤ x := by unfold sm at h; omega
theorem sm_hi {x : Int} (h : sm x) : x ≤ 1000000000 := by unfold sm at h; omega
theorem sm_of {x : Int} (h0 : -1000000000 ≤ x) (h1 : x ≤ 1000000000) : sm x := by unfold sm; omega
theorem sm_mul {a b : Int} (ha : sm a) (hb : sm b) : -1000000000000000000 ≤ a * b ∧ a * b ≤ 1000000000000000000 := by
  have := mulN_bd _ _ ha hb
  omega
theorem box_3f (w : World) (cs ds es : Array Value) (T U V : TypeId) :
    Below w.heap.size w (((w.alloc (.cells cs T)).alloc (.cells ds U)).alloc (.cells es V)) ∧ (((w.alloc (.cells cs T)).alloc (.cells ds U)).alloc (.cells es V)).heap[w.heap.size]? = some (.cells cs T (0, 0)) ∧
    (((w.alloc (.cells cs T)).alloc (.cells ds U)).alloc (.cells es V)).heap[w.heap.size + 1]? = some (.cells ds U (0, 0)) ∧ (((w.alloc (.cells cs T)).alloc (.cells ds U)).alloc (.cells es V)).heap[w.heap.size + 1 + 1]? = some (.cells es V (0, 0)) := by
  obtain ⟨b0, x0, x1⟩ := box_two w cs ds T U
  have b1 := below_new ((w.alloc (.cells cs T)).alloc (.cells ds U)) (.cells es V)
  have h := heap_alloc_new ((w.alloc (.cells cs T)).alloc (.cells ds U)) (.cells es V)
  exact ⟨b0.trans (b1.mono b0.size), box_below x0 b1, box_below x1 b1, by simpa using h⟩

/-- A quotient. -/
def divO (n d p q : Int) : Option (Int × Int) := if p = 0 then none else redO (n * q) (d * p)
theorem divO_no {n d p q : Int} (h : p = 0) : divO n d p q = none := by unfold divO; rw [if_pos h]
theorem divO_yes {n d p q : Int} (h : ¬ p = 0) : divO n d p q = redO (n * q) (d * p) := by unfold divO; rw [if_neg h]

theorem fdiv_eq {n d : Int} (hd : 0 < d) : (if n.tmod d < 0 then n.tdiv d - 1 else n.tdiv d) = n / d := by
  have h1 := Int.mul_tdiv_add_tmod n d
  have h2 := Int.tmod_lt_of_pos n hd
  have h3 := tmod_natAbs n d
  have h4 := Nat.mod_lt n.natAbs (show 0 < d.natAbs by omega)
  rw [← h3] at h4
  split
  · exact ((Int.ediv_emod_unique (r := n.tmod d + d) hd).2 ⟨by rw [Int.mul_sub]; omega, by omega, by omega⟩).1.symm
  · exact ((Int.ediv_emod_unique (r := n.tmod d) hd).2 ⟨by omega, by omega, by omega⟩).1.symm
end

section
open Go.RowKit

theorem keepN {a b : World} {g : Nat} {o o2 : Obj} (h : a.heap[g]? = some o) (hb : Below (a.alloc o2).heap.size (a.alloc o2) b) : b.heap[g]? = some o :=
  box_below (box_below h (below_new a o2)) hb
theorem keepB {w a b : World} {B : Nat} (h : Below B w a) (hB : B ≤ w.heap.size) (hb : Below a.heap.size a b) : Below B w b := h.trans (hb.mono (Nat.le_trans hB h.size))
theorem keepBN {w a b : World} {B : Nat} {o : Obj} (h : Below B w a) (hB : B ≤ w.heap.size) (hb : Below (a.alloc o).heap.size (a.alloc o) b) : Below B w b :=
  keepB (keepB h hB (below_new a o)) hB hb
theorem newAt {w a b : World} {B : Nat} {cs : Array Value} {T : TypeId} (h : Below B w a) (hB : B ≤ w.heap.size) (hb : Below (a.alloc (.cells cs T)).heap.size (a.alloc (.cells cs T)) b) : b.heap[a.heap.size]? = some (.cells cs T (0, 0)) ∧ B ≤ a.heap.size :=
  ⟨box_below (box_new a cs T) hb, Nat.le_trans hB h.size⟩
theorem cell_two {w : World} {g a i : Nat} {u v v' : Value} (h : w.cell? ⟨a, i, none⟩ = some v') (hne : a ≠ g) : ((w.setCell ⟨g, 0, none⟩ u).setCell ⟨g, 1, none⟩ v).cell? ⟨a, i, none⟩ = some v' := by
  rw [World.cell?_of_block (w := w) (w' := (w.setCell ⟨g, 0, none⟩ u).setCell ⟨g, 1, none⟩ v) (a := ⟨a, i, none⟩) ?_]
  · exact h
  · rw [Below.heap_setCell _ ⟨g, 1, none⟩ v a hne, Below.heap_setCell _ ⟨g, 0, none⟩ u a hne]
theorem cell_new {w : World} {a i : Nat} {o : Obj} {v' : Value} (h : w.cell? ⟨a, i, none⟩ = some v') : (w.alloc o).cell? ⟨a, i, none⟩ = some v' :=
  ((below_new w o).cell (p := ⟨a, i, none⟩) (block_lt_of_cell h)).trans h
end
end Go.Proofs.YtahbcnclhohnaaaGreat
