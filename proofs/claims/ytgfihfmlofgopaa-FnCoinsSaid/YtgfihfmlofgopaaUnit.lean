/- Unit coins: the model, and the program's. -/
import Derived.Test.YtgfihfmlofgopaaKCoin
namespace Go.Proofs.Ytgfihfmlofgopaa
open Go.RowKit

/-- A coin with the chance exp(-n/d), from the k-th factor on, t factors at most. -/
def unitT (s n d : Int) : Nat → Nat → Int → Option (Bool × Int)
  | 0, _, _ => none
  | t + 1, k, a => match redO n (d * k) with
    | none => none
    | some (p, q) => match coinM s p q a with
      | none => none
      | some (true, b) => unitT s n d t (k + 1) b
      | some (false, b) => some (((k : Int).tmod 2 == 1), b)
theorem unitT_no {s n d a : Int} {t k : Nat} (h : redO n (d * k) = none) : unitT s n d (t + 1) k a = none := by simp only [unitT, h]
theorem unitT_fail {s n d a p q : Int} {t k : Nat} (h : redO n (d * k) = some (p, q)) (h2 : coinM s p q a = none) : unitT s n d (t + 1) k a = none := by simp only [unitT, h, h2]
theorem unitT_up {s n d a p q b : Int} {t k : Nat} (h : redO n (d * k) = some (p, q)) (h2 : coinM s p q a = some (true, b)) : unitT s n d (t + 1) k a = unitT s n d t (k + 1) b := by simp only [unitT, h, h2]
theorem unitT_down {s n d a p q b : Int} {t k : Nat} (h : redO n (d * k) = some (p, q)) (h2 : coinM s p q a = some (false, b)) : unitT s n d (t + 1) k a = some (((k : Int).tmod 2 == 1), b) := by simp only [unitT, h, h2]
theorem unitT_bd {s n d a a' : Int} {t k : Nat} {v : Bool} (h : unitT s n d t k a = some (v, a')) (h0 : 0 ≤ a) (h1 : a ≤ 1000000) : 0 ≤ a' ∧ a' ≤ 1000000 := by
  induction t generalizing k a with
  | zero => cases h
  | succ t ih =>
    cases hr : redO n (d * k) with
    | none => rw [unitT_no hr] at h; cases h
    | some r =>
      obtain ⟨p, q⟩ := r
      cases hc : coinM s p q a with
      | none => rw [unitT_fail hr hc] at h; cases h
      | some c =>
        obtain ⟨u, b⟩ := c
        have hb := coinM_bd hc h0 h1
        cases u
        · rw [unitT_down hr hc] at h
          simp only [Option.some.injEq, Prod.mk.injEq] at h
          omega
        · rw [unitT_up hr hc] at h
          exact ih h hb.1 hb.2
def unitM (s n d a : Int) : Option (Bool × Int) := unitT s n d 200 1 a
theorem unitM_bd {s n d a a' : Int} {v : Bool} (h : unitM s n d a = some (v, a')) (h0 : 0 ≤ a) (h1 : a ≤ 1000000) : 0 ≤ a' ∧ a' ≤ 1000000 := unitT_bd h h0 h1

set_option maxRecDepth 100000 in
set_option maxHeartbeats 2000000 in
theorem unitCoin_any (g : Nat) (s a n d : Int) (w : World) (h : StrAt w g s a) (h0 : 0 ≤ a) (h1 : a ≤ 1000000) (hn : sm n) (hd : 1 ≤ d) (hd2 : d ≤ 1000000000) :
    Calls Try.prog 73 #[.pointer (some ⟨g, 0, none⟩), .agg #[.int .i64 n, .int .i64 d]] w (SPost Value.bool g s (unitM s n d a) w) := by
  have hlt := h.lt
  have hn1 := sm_lo hn
  have hn2 := sm_hi hn
  have HR := Lib.hid (show unitM s n d a = unitT s n d 200 1 a from rfl)
  generalize unitM s n d a = R at *
  have x0 := box_new w #[.int .i64 n, .int .i64 d] 27
  have b0 := below_new w (.cells #[.int .i64 n, .int .i64 d] 27)
  have hC := (Chg.refl g (g + 1) w).alloc (.cells #[.int .i64 n, .int .i64 d] 27)
  replace h := h.below b0
  go_enter Try.func73, Try.ntmps73
  go_wp2_with fail
  generalize w.alloc (.cells #[.int .i64 n, .int .i64 d] 27) = w0 at *
  go_loopw [6] (fun i wr => ∃ (k : Nat) (b : Int), 1 ≤ k ∧ k ≤ 201 ∧ i = .int .i64 k ∧ Hid (R = unitT s n d (201 - k) k b) ∧ StrAt wr g s b ∧ 0 ≤ b ∧ b ≤ 1000000 ∧ wr.heap[w.heap.size]? = some (.cells #[.int .i64 n, .int .i64 d] 27 (0, 0)) ∧ Chg g (g + 1) w wr) (fun i _ => 201 - (intOf i).toNat)
  case atStart => exact ⟨1, a, by omega, by omega, rfl, HR, h, h0, h1, x0, hC⟩
  case round =>
    clear h x0 hC b0
    obtain ⟨k, b, hk1, hk, rfl, hx, hs, hb0, hb1, x0, hC⟩ := hrel
    have c0 := box_cell x0 0 _ rfl
    have c1 := box_cell x0 1 _ rfl
    have hwg := lt_of_block x0
    by_cases hlt2 : k ≤ 200
    · have hs200 : 201 - k = (200 - k) + 1 := by omega
      rw [hs200] at hx
      clear hs200
      have hM := sm_mul (show sm d from sm_of (by omega) hd2) (show sm (k : Int) from sm_of (by omega) (by omega))
      have hM1 := hM.1
      have hM2 := hM.2
      have hdk : d * k ≠ 0 := by
        intro h9
        rcases Int.mul_eq_zero.1 h9 with h8 | h8 <;> omega
      clear hM
      go_wp2_with fail
      refine (reduced_any _ _ _ (by omega) (by omega) (by omega) (by omega) hdk).mono ?_
      rintro e w2 ⟨rfl, b2⟩
      clear c0 c1
      replace x0 := box_below x0 b2
      replace hs := hs.below b2
      replace hC := hC.then_ b2
      have c0 := box_cell x0 0 _ rfl
      have c1 := box_cell x0 1 _ rfl
      clear b2 hM1 hM2 hdk
      cases hr : redO n (d * k) with
      | none =>
        have E := Lib.hid (hx.out.trans (unitT_no hr))
        clear hr
        simp only [fN, fD, fB]
        go_wp2
        go_ret2
        exact SPost.no E.out (hs.below (below_new _ _)) (hC.alloc _)
      | some r =>
        obtain ⟨p, q⟩ := r
        have hf := fracB_of (redO_frac hr)
        have hq0 := hf.1
        have hq1 := hf.2.1
        have Hr := Lib.hid hr
        clear hr hf
        simp only [fN, fD, fB]
        go_wp2_with fail
        have b3 := below_new w2 (.cells #[.int .i64 p, .int .i64 q] 27)
        replace x0 := box_below x0 b3
        replace hs := hs.below b3
        replace hC := hC.then_ b3
        clear c0 c1 b3
        generalize w2.alloc (.cells #[.int .i64 p, .int .i64 q] 27) = w3 at *
        refine (coin_any _ _ _ _ _ _ hs hb0 hb1 hq0 hq1).mono ?_
        rintro e w4 ⟨hyes, hno, hc⟩
        replace x0 := box_chg x0 hc (.inr (by omega))
        replace hC := hC.trans hc
        clear hc hs
        cases hM : coinM s p q b with
        | none =>
          obtain ⟨z, b2, rfl, hs2⟩ := hno hM
          have E := Lib.hid (hx.out.trans (unitT_fail Hr.out hM))
          clear hyes hno hM
          go_wp2
          go_ret2
          exact SPost.no E.out hs2 hC
        | some r =>
          obtain ⟨u, b2⟩ := r
          obtain ⟨rfl, hs2⟩ := hyes u b2 hM
          have hb := coinM_bd hM hb0 hb1
          have hb20 := hb.1
          have hb21 := hb.2
          have HM := Lib.hid hM
          clear hyes hno hM hb
          cases u
          · have E := Lib.hid (hx.out.trans (unitT_down Hr.out HM.out))
            go_wp2
            go_ret2
            exact SPost.yes E.out hs2 hC
          · have E := Lib.hid (hx.out.trans (unitT_up Hr.out HM.out))
            go_wp2
            go_roundw
            case rel => exact ⟨k + 1, b2, by omega, by omega, by go_num, by rw [show 201 - (k + 1) = 200 - k by omega]; exact E, hs2, hb20, hb21, x0, hC⟩
            case measure => simp [intOf]; omega
    · have E : Hid (R = none) := Lib.hid (by rw [hx.out, show 201 - k = 0 by omega]; rfl)
      go_wp2
      go_ret2
      exact SPost.no E.out hs hC
end Go.Proofs.Ytgfihfmlofgopaa
