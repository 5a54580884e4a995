/- The exponent of the coin that accepts Gaussian noise: the walks. -/
import Derived.Test.YtfkdmddfadkjoaaAcc
import Derived.IntWalk
import Derived.Deep.RegionHeld3
namespace Go.Proofs.Ytfkdmddfadkjoaa
open Go.RowKit

theorem tdiv_bd {n : Int} (g : Int) (hg : 1 ≤ g) {m : Int} (h0 : -m ≤ n) (h1 : n ≤ m) : -m ≤ n.tdiv g ∧ n.tdiv g ≤ m := by
  have := tdiv_abs n g hg
  omega
theorem tdiv_nn {n : Int} (g : Int) (hg : 1 ≤ g) (h0 : 0 ≤ n) : 0 ≤ n.tdiv g := by
  rw [Int.tdiv_eq_ediv_of_nonneg h0]
  exact Int.ediv_nonneg h0 (by omega)

set_option maxRecDepth 100000 in
set_option maxHeartbeats 800000 in
theorem quotient_any (a b p q : Int) (w : World) (ha : sm a) (hb : 1 ≤ b) (hb2 : b ≤ 1000000000) (hp : 1 ≤ p) (hp2 : p ≤ 1000000000) (hq : 1 ≤ q) (hq2 : q ≤ 1000000000) :
    Calls Try.prog 134 #[.agg #[.int .i64 a, .int .i64 b], .agg #[.int .i64 p, .int .i64 q]] w fun e w' => e = .returned (.tuple #[.agg #[.int .i64 (fN (redO (a * q) (b * (2 * p)))), .int .i64 (fD (redO (a * q) (b * (2 * p))))], .bool (fB (redO (a * q) (b * (2 * p))))]) ∧ Below w.heap.size w w' := by
  have ha0 := sm_lo ha
  have ha1 := sm_hi ha
  have HQ := Lib.hid (quo_way (a := a) hp hb hq)
  have HN1 : Hid (b.tdiv (Int.gcd b q : Nat) ≠ 0) := Lib.hid fun h => by
    have e3 := Int.tdiv_mul_cancel (show ((Int.gcd b q : Nat) : Int) ∣ b from Int.gcd_dvd_left ..)
    rw [h] at e3; omega
  have HN2 : Hid (p.tdiv (Int.gcd a p : Nat) ≠ 0) := Lib.hid fun h => by
    have e3 := Int.tdiv_mul_cancel (show ((Int.gcd a p : Nat) : Int) ∣ p from Int.gcd_dvd_right ..)
    rw [h] at e3; omega
  have hG := gcd_pos (n := a) (d := p) (by omega)
  have hH := gcd_pos (n := b) (d := q) (by omega)
  obtain ⟨b0, x0, x1, x4⟩ := box_three w #[.int .i64 a, .int .i64 b] #[.int .i64 p, .int .i64 q] #[.int .i64 0, .int .i64 0] 28 28 28
  go_enter Try.func134, Try.ntmps134
  go_wp2_with fail
  generalize ((w.alloc (.cells #[.int .i64 a, .int .i64 b] 28)).alloc (.cells #[.int .i64 p, .int .i64 q] 28)).alloc (.cells #[.int .i64 0, .int .i64 0] 28) = w0 at *
  refine (gcdOf_any _ _ _ (by omega) (by omega) (by omega) (by omega)).mono ?_
  rintro e w1 ⟨rfl, b1⟩
  generalize ((Int.gcd a p : Nat) : Int) = G at *
  replace x0 := box_below x0 b1
  replace x1 := box_below x1 b1
  replace x4 := box_below x4 b1
  replace b1 := b0.trans (b1.mono b0.size)
  clear b0
  have a0 := box_cell x0 0 _ rfl
  have a1 := box_cell x0 1 _ rfl
  have b00 := box_cell x1 0 _ rfl
  have b01 := box_cell x1 1 _ rfl
  go_wp2_with fail
  refine (gcdOf_any _ _ _ (by omega) (by omega) (by omega) (by omega)).mono ?_
  rintro e w2 ⟨rfl, b2⟩
  generalize ((Int.gcd b q : Nat) : Int) = K at *
  replace x0 := box_below x0 b2
  replace x1 := box_below x1 b2
  replace x4 := box_below x4 b2
  replace b2 := b1.trans (b2.mono b1.size)
  clear b1
  have a0 := box_cell x0 0 _ rfl
  have a1 := box_cell x0 1 _ rfl
  have b00 := box_cell x1 0 _ rfl
  have b01 := box_cell x1 1 _ rfl
  have d0 := box_cell x4 0 _ rfl
  have d1 := box_cell x4 1 _ rfl
  have f0 := box_free x4 0
  have f1 := box_free x4 1
  obtain ⟨A, hA⟩ : ∃ A, a.tdiv G = A := ⟨_, rfl⟩
  obtain ⟨P, hP⟩ : ∃ P, p.tdiv G = P := ⟨_, rfl⟩
  obtain ⟨C, hC⟩ : ∃ C, b.tdiv K = C := ⟨_, rfl⟩
  obtain ⟨D, hD⟩ : ∃ D, q.tdiv K = D := ⟨_, rfl⟩
  have t1 := tdiv_bd (n := a) G hG (m := 1000000000) (by omega) (by omega)
  have t2 := tdiv_bd (n := p) G hG (m := 1000000000) (by omega) (by omega)
  have t3 := tdiv_bd (n := b) K hH (m := 1000000000) (by omega) (by omega)
  have t4 := tdiv_bd (n := q) K hH (m := 1000000000) (by omega) (by omega)
  rw [hA] at t1
  rw [hP] at t2
  rw [hC] at t3
  rw [hD] at t4
  have m1 := sm_mul (show sm A from sm_of t1.1 t1.2) (show sm D from sm_of t4.1 t4.2)
  have m2 := mulN_bd (a := 2 * C) (b := P) 2000000000 1000000000 (by omega) (by omega)
  have n3 : 2 * C * P ≠ 0 := by
    have n1 : C ≠ 0 := fun h => HN1.out (hC.trans h)
    have n2 : P ≠ 0 := fun h => HN2.out (hP.trans h)
    exact Int.mul_ne_zero (Int.mul_ne_zero (by omega) n1) n2
  rw [hA, hP, hC, hD] at HQ
  have W1 := Lib.hid (IntWalk.i64_in A (by omega))
  have W2 := Lib.hid (IntWalk.i64_in P (by omega))
  have W3 := Lib.hid (IntWalk.i64_in C (by omega))
  have W4 := Lib.hid (IntWalk.i64_in D (by omega))
  have g0 : ¬ G = 0 := by omega
  have k0 : ¬ K = 0 := by omega
  have W5 := Lib.hid (IntWalk.i64_in (A * D) (by omega))
  have W6 := Lib.hid (IntWalk.i64_in (2 * C) (by omega))
  have W7 := Lib.hid (IntWalk.i64_in (2 * C * P) (by omega))
  have HR := Lib.hid (fun w : World => reduced_any (A * D) (2 * C * P) w (by omega) (by omega) (by omega) (by omega) n3)
  have y1 := b2.size
  clear HN1 HN2 t1 t2 t3 t4 m1 m2 n3 ha ha0 ha1 hb hb2 hp hp2 hq hq2
  go_wp2_with fail
  have e1 := W1.out
  have e2 := W2.out
  have e3 := W3.out
  have e4 := W4.out
  have e5 := W5.out
  have e6 := W6.out
  have e7 := W7.out
  go_region_held3 (fun w' => w'.cell? ⟨w.heap.size, 0, none⟩ = some (.int .i64 a) ∧ w'.cell? ⟨w.heap.size, 1, none⟩ = some (.int .i64 b) ∧ w'.cell? ⟨w.heap.size + 1, 0, none⟩ = some (.int .i64 p) ∧ w'.cell? ⟨w.heap.size + 1, 1, none⟩ = some (.int .i64 q)) (first | exact ⟨k0, k1, k2, k3⟩ | exact ⟨cell_two k0 (by omega), cell_two k1 (by omega), cell_two k2 (by omega), cell_two k3 (by omega)⟩ | go_keep) ((go_at_call 157; refine (HR.out _).mono ?_; rintro e w3 ⟨rfl, b3⟩; have r0 := (b3.block _ (lt_of_block x0)).trans x0; have r1 := (b3.block _ (lt_of_block x1)).trans x1; have r4 := (b3.block _ (lt_of_block x4)).trans x4; have k0 := box_cell r0 0 _ rfl; have k1 := box_cell r0 1 _ rfl; have k2 := box_cell r1 0 _ rfl; have k3 := box_cell r1 1 _ rfl; have d2 := box_cell r4 0 _ rfl; have d3 := box_cell r4 1 _ rfl; have f2 := box_free r4 0; have f3 := box_free r4 1; have B3 := b2.drew.trans (b3.mono b2.size)))
  have y4 := store_two r4 (.int .i64 (fN (redO (A * D) (2 * C * P)))) (.int .i64 (fD (redO (A * D) (2 * C * P))))
  have e0 := box_cell y4 0 _ rfl
  have e1 := box_cell y4 1 _ rfl
  go_wp2
  refine bodyPost_ret (v := .tuple #[.agg #[.int .i64 (fN (redO (A * D) (2 * C * P))), .int .i64 (fD (redO (A * D) (2 * C * P)))], .bool (fB (redO (A * D) (2 * C * P)))]) (by simp [results, Try.results134, go_sem, e0, e1]) rfl ⟨by rw [HQ.out], below_two B3 (by omega)⟩
end Go.Proofs.Ytfkdmddfadkjoaa
