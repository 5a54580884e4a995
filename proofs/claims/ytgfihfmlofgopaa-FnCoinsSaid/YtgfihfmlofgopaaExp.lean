/- Coins with the chance exp(-x): the model, and the program's. -/
import Derived.Test.YtgfihfmlofgopaaKUnit
namespace Go.Proofs.Ytgfihfmlofgopaa
open Go.RowKit

/-- A coin with the chance exp(-n/d), k whole factors being left. -/
def expF (s n d : Int) : Nat → Int → Option (Bool × Int)
  | 0, a => unitM s (n - n / d * d) d a
  | k + 1, a => match unitM s 1 1 a with
    | none => none
    | some (true, b) => expF s n d k b
    | some (false, b) => some (false, b)
theorem expF_none {s n d a : Int} {k : Nat} (h : unitM s 1 1 a = none) : expF s n d (k + 1) a = none := by simp only [expF, h]
theorem expF_up {s n d a b : Int} {k : Nat} (h : unitM s 1 1 a = some (true, b)) : expF s n d (k + 1) a = expF s n d k b := by simp only [expF, h]
theorem expF_down {s n d a b : Int} {k : Nat} (h : unitM s 1 1 a = some (false, b)) : expF s n d (k + 1) a = some (false, b) := by simp only [expF, h]
theorem expF_bd {s n d a a' : Int} {k : Nat} {v : Bool} (h : expF s n d k a = some (v, a')) (h0 : 0 ≤ a) (h1 : a ≤ 1000000) : 0 ≤ a' ∧ a' ≤ 1000000 := by
  induction k generalizing a with
  | zero => exact unitM_bd h h0 h1
  | succ k ih =>
    cases hc : unitM s 1 1 a with
    | none => rw [expF_none hc] at h; cases h
    | some c =>
      obtain ⟨u, b⟩ := c
      have hb := unitM_bd hc h0 h1
      cases u
      · rw [expF_down hc] at h
        simp only [Option.some.injEq, Prod.mk.injEq] at h
        omega
      · rw [expF_up hc] at h
        exact ih h hb.1 hb.2
def expM (s n d a : Int) : Option (Bool × Int) := expF s n d (n / d).toNat a
theorem expM_bd {s n d a a' : Int} {v : Bool} (h : expM s n d a = some (v, a')) (h0 : 0 ≤ a) (h1 : a ≤ 1000000) : 0 ≤ a' ∧ a' ≤ 1000000 := expF_bd h h0 h1
theorem whole_bd {n d : Int} (hn : sm n) (h0 : 0 ≤ n) (hd : 1 ≤ d) : 0 ≤ n / d ∧ n / d ≤ 1000000000 ∧ 0 ≤ n / d * d ∧ n / d * d ≤ n ∧ n - n / d * d < d := by
  have h1 := Int.ediv_nonneg h0 (show 0 ≤ d by omega)
  have h2 := Int.ediv_le_self d h0
  have h3 := Int.ediv_mul_le n (show d ≠ 0 by omega)
  have h4 := Int.lt_ediv_add_one_mul_self n (show 0 < d by omega)
  have h5 := sm_hi hn
  rw [Int.add_mul] at h4
  exact ⟨h1, by omega, Int.mul_nonneg h1 (by omega), h3, by omega⟩

set_option maxRecDepth 100000 in
set_option maxHeartbeats 2000000 in
theorem expCoin_any (g : Nat) (s a n d : Int) (w : World) (h : StrAt w g s a) (h0 : 0 ≤ a) (h1 : a ≤ 1000000) (hn : sm n) (hn0 : 0 ≤ n) (hd : 1 ≤ d) (hd2 : d ≤ 1000000000) :
    Calls Try.prog 38 #[.pointer (some ⟨g, 0, none⟩), .agg #[.int .i64 n, .int .i64 d]] w (SPost Value.bool g s (expM s n d a) w) := by
  have hlt := h.lt
  have hn2 := sm_hi hn
  have hW := whole_bd hn hn0 hd
  have HR := Lib.hid (show expM s n d a = expF s n d (n / d).toNat a from rfl)
  have HZ : Hid (∀ b, expF s n d 0 b = unitM s (n - n / d * d) d b) := Lib.hid fun b => rfl
  generalize expM s n d a = R at *
  have x0 := box_new w #[.int .i64 n, .int .i64 d] 27
  have b0 := below_new w (.cells #[.int .i64 n, .int .i64 d] 27)
  have hC := (Chg.refl g (g + 1) w).alloc (.cells #[.int .i64 n, .int .i64 d] 27)
  replace h := h.below b0
  go_enter Try.func38, Try.ntmps38
  go_wp2_with fail
  generalize w.alloc (.cells #[.int .i64 n, .int .i64 d] 27) = w0 at *
  refine (floorDiv_any _ _ _ hn hd).mono ?_
  rintro e w1 ⟨rfl, b1⟩
  replace x0 := box_below x0 b1
  replace h := h.below b1
  replace hC := hC.then_ b1
  obtain ⟨m, hm⟩ : ∃ m : Nat, n / d = (m : Int) := ⟨(n / d).toNat, by omega⟩
  rw [hm] at hW HR HZ
  rw [hm]
  rw [Int.toNat_natCast] at HR
  have hw1 := hW.2.1
  have hw2 := hW.2.2.1
  have hw3 := hW.2.2.2.1
  have hw4 := hW.2.2.2.2
  have hy : sm (n - (m : Int) * d) := sm_of (by omega) (by omega)
  clear hm hW b0 b1
  go_wp2
  go_loopw [15] (fun i wr => ∃ (k : Nat) (b : Int), k ≤ m ∧ i = .int .i64 k ∧ Hid (R = expF s n d (m - k) b) ∧ StrAt wr g s b ∧ 0 ≤ b ∧ b ≤ 1000000 ∧ wr.heap[w.heap.size]? = some (.cells #[.int .i64 n, .int .i64 d] 27 (0, 0)) ∧ Chg g (g + 1) w wr) (fun i _ => m - (intOf i).toNat)
  case atStart => exact ⟨0, a, Nat.zero_le _, rfl, HR, h, h0, h1, x0, hC⟩
  case round =>
    clear h x0 hC
    obtain ⟨k, b, hk, rfl, hx, hs, hb0, hb1, x0, hC⟩ := hrel
    have hwg := lt_of_block x0
    by_cases hlt2 : k < m
    · have hs200 : m - k = (m - (k + 1)) + 1 := by omega
      rw [hs200] at hx
      clear hs200
      go_wp2_with fail
      refine (unitCoin_any _ _ _ _ _ _ hs hb0 hb1 sm_one (by omega) (by omega)).mono ?_
      rintro e w4 ⟨hyes, hno, hc⟩
      replace x0 := box_chg x0 hc (.inr (by omega))
      replace hC := hC.trans hc
      clear hc hs
      cases hM : unitM s 1 1 b with
      | none =>
        obtain ⟨z, b2, rfl, hs2⟩ := hno hM
        have E := Lib.hid (hx.out.trans (expF_none hM))
        clear hyes hno hM
        cases z
        · go_wp2
          go_ret2
          exact SPost.no E.out hs2 hC
        · go_wp2
          go_ret2
          exact SPost.no E.out hs2 hC
      | some r =>
        obtain ⟨u, b2⟩ := r
        obtain ⟨rfl, hs2⟩ := hyes u b2 hM
        have hb := unitM_bd hM hb0 hb1
        have hb20 := hb.1
        have hb21 := hb.2
        have HM := Lib.hid hM
        clear hyes hno hM hb
        cases u
        · have E := Lib.hid (hx.out.trans (expF_down HM.out))
          go_wp2
          go_ret2
          exact SPost.yes E.out hs2 hC
        · have E := Lib.hid (hx.out.trans (expF_up HM.out))
          go_wp2
          go_roundw
          case rel => exact ⟨k + 1, b2, by omega, by go_num, E, hs2, hb20, hb21, x0, hC⟩
          case measure => simp [intOf]; omega
    · obtain rfl : k = m := by omega
      have c0 := box_cell x0 0 _ rfl
      have c1 := box_cell x0 1 _ rfl
      have HX := Lib.hid (show R = unitM s (n - (k : Int) * d) d b by rw [hx.out, Nat.sub_self]; exact HZ.out b)
      clear hx HZ HR
      go_wp2_with fail
      refine (unitCoin_any _ _ _ _ _ _ hs hb0 hb1 hy hd hd2).mono ?_
      rintro e w4 ⟨hyes, hno, hc⟩
      replace hC := hC.trans hc
      rw [← HX.out] at hyes hno
      clear hc hs c0 c1 x0
      cases hM : R with
      | none =>
        obtain ⟨z, b2, rfl, hs2⟩ := hno hM
        have E := Lib.hid hM
        clear hyes hno hM
        go_wp2
        go_ret2
        exact SPost.no E.out hs2 hC
      | some r =>
        obtain ⟨u, b2⟩ := r
        obtain ⟨rfl, hs2⟩ := hyes u b2 hM
        have E := Lib.hid hM
        clear hyes hno hM
        go_wp2
        go_ret2
        exact SPost.yes E.out hs2 hC
end Go.Proofs.Ytgfihfmlofgopaa
