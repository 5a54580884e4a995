/- Comparing of fractions, of rows of fractions; plain laws of FnCoins. -/
import Derived.Test.YtgfihfmlofgopaaCnE
import Derived.Test.YtgfihfmlofgopaaCnI
import Derived.Test.YtgfihfmlofgopaaPick
import Derived.BigQuiet
namespace Go.Proofs.Ytgfihfmlofgopaa
open Go.RowKit

set_option maxRecDepth 100000 in
set_option maxHeartbeats 2000000 in
theorem cmpFrac_any (n d p q : Int) (w : World) (hn : sm n) (hd : sm d) (hp : sm p) (hq : sm q) (h : n * q ≤ p * d) :
    Calls Try.prog 59 #[.agg #[.int .i64 n, .int .i64 d], .agg #[.int .i64 p, .int .i64 q]] w fun e w' => (∃ r : Int, e = .returned (.int .i64 r) ∧ r ≤ 0) ∧ Below w.heap.size w w' := by
  obtain ⟨m0a, m0b⟩ := sm_mul hn hq
  obtain ⟨m1a, m1b⟩ := sm_mul hp hd
  clear hn hd hp hq
  obtain ⟨b0, x2, x3⟩ := box_two w #[.int .i64 n, .int .i64 d] #[.int .i64 p, .int .i64 q] 27 27
  have l2 := lt_of_block x2
  have l3 := lt_of_block x3
  have c20 := box_cell x2 0 _ rfl
  have c21 := box_cell x2 1 _ rfl
  have c30 := box_cell x3 0 _ rfl
  have c31 := box_cell x3 1 _ rfl
  have HB := Lib.hid b0
  clear x2 x3 b0
  go_enter Try.func59, Try.ntmps59
  by_cases hlt : n * q < p * d
  · go_wp2
    go_quiet (fail)
    go_wp2
    go_ret
    exact ⟨⟨-1, rfl, by omega⟩, below_drewN HB.out _⟩
  · have hgt : ¬ p * d < n * q := by omega
    go_wp2
    go_quiet (fail)
    go_wp2
    go_ret
    exact ⟨⟨0, rfl, by omega⟩, below_drewN HB.out _⟩

set_option maxRecDepth 100000 in
set_option maxHeartbeats 2000000 in
theorem compareFrac_any (n d p q : Int) (w : World) (h1 : fracB n d = true) (h2 : fracB p q = true) (h : n * q ≤ p * d) :
    Calls Try.prog 22 #[.agg #[.int .i64 n, .int .i64 d], .agg #[.int .i64 p, .int .i64 q]] w fun e w' => (∃ r : Int, e = .returned (.tuple #[.int .i64 r, .bool true]) ∧ r ≤ 0) ∧ Below w.heap.size w w' := by
  obtain ⟨hn, hd, _⟩ := fracB_sm h1
  obtain ⟨hp, hq, _⟩ := fracB_sm h2
  have H1 := Lib.hid h1
  have H2 := Lib.hid h2
  have H := Lib.hid h
  clear h1 h2 h
  obtain ⟨b0, x2, x3⟩ := box_two w #[.int .i64 n, .int .i64 d] #[.int .i64 p, .int .i64 q] 27 27
  go_enter Try.func22, Try.ntmps22
  have l2 := lt_of_block x2
  have l3 := lt_of_block x3
  have c20 := box_cell x2 0 _ rfl
  have c21 := box_cell x2 1 _ rfl
  go_wp2_with fail
  clear c20 c21 l2 l3
  generalize (w.alloc (.cells #[.int .i64 n, .int .i64 d] 27)).alloc (.cells #[.int .i64 p, .int .i64 q] 27) = w0 at *
  refine (isFrac_any _ _ _).mono ?_
  rintro e w1 ⟨rfl, b1⟩
  rw [H1.out]
  replace x2 := box_below x2 b1
  replace x3 := box_below x3 b1
  have B1 := b0.trans (b1.mono b0.size)
  clear b0 b1
  have l2 := lt_of_block x2
  have l3 := lt_of_block x3
  have c20 := box_cell x3 0 _ rfl
  have c21 := box_cell x3 1 _ rfl
  go_wp2_with fail
  clear c20 c21 l2 l3
  refine (isFrac_any _ _ _).mono ?_
  rintro e w2 ⟨rfl, b1⟩
  rw [H2.out]
  replace x2 := box_below x2 b1
  replace x3 := box_below x3 b1
  have B2 := B1.trans (b1.mono B1.size)
  clear B1 b1
  have l2 := lt_of_block x2
  have l3 := lt_of_block x3
  have c20 := box_cell x2 0 _ rfl
  have c21 := box_cell x2 1 _ rfl
  have c30 := box_cell x3 0 _ rfl
  have c31 := box_cell x3 1 _ rfl
  go_wp2_with fail
  clear c20 c21 c30 c31 l2 l3
  refine (cmpFrac_any n d p q _ hn hd hp hq H.out).mono ?_
  rintro e w3 ⟨⟨r, rfl, hr⟩, b1⟩
  have B3 := B2.trans (b1.mono B2.size)
  clear B2 b1 x2 x3
  go_wp2
  go_ret2
  exact ⟨⟨r, rfl, hr⟩, B3⟩

set_option maxRecDepth 100000 in
set_option maxHeartbeats 2000000 in
theorem pSameFracs_any (A A' : Option Addr) (n c c' : Nat) (xs : List (Int × Int)) (w : World) (hx : FracsR w A n xs) (hy : FracsR w A' n xs) (hn : n ≤ 1000) :
    Calls Try.prog 17 #[.slice A n c, .slice A' n c'] w fun e w' => e = .returned (.bool true) ∧ Below w.heap.size w w' := by
  go_enter Try.func17, Try.ntmps17
  go_wp2
  go_loopw [13] (fun i wr => ∃ (k q : Nat), k ≤ n ∧ i = .int .i64 k ∧ wr = w.drewN q) (fun i _ => n - (intOf i).toNat)
  case atStart => exact ⟨0, 0, Nat.zero_le _, rfl, rfl⟩
  case round =>
    obtain ⟨k, q, hk, rfl, rfl⟩ := hrel
    by_cases hlt : k < n
    · obtain ⟨ad, rfl, hc0, hc1⟩ := hx.at_ hlt
      obtain ⟨ad', rfl, hd0, hd1⟩ := hy.at_ hlt
      clear hx hy
      generalize (fx xs k).1 = x at *
      generalize (fx xs k).2 = y at *
      go_wp2
      go_quiet (fail)
      go_wp2
      go_roundw
      case rel => exact ⟨k + 1, _, by omega, by go_num, rfl⟩
      case measure => simp [intOf]; omega
    · go_wp2
      go_ret
      exact ⟨rfl, below_drewN (Below.refl _ _) q⟩

theorem pickI_ne {xs : List Int} {v : Int} (h0 : 0 ≤ v) (h1 : v < xs.sum) : pickI xs v < xs.length ∧ ¬ xs[pickI xs v]?.getD 0 = 0 := by
  induction xs generalizing v with
  | nil => simp at h1; omega
  | cons x xs ih =>
    unfold pickI
    by_cases h : v < x
    · rw [if_pos h]
      simp
      omega
    · rw [if_neg h]
      have h2 := ih (v := v - x) (by omega) (by simp at h1; omega)
      rw [Nat.add_comm]
      simp only [List.length_cons, List.getElem?_cons_succ]
      exact ⟨by omega, h2.2⟩
theorem streamB_at {s a : Int} (h : streamB s a = true) : 0 ≤ a ∧ a ≤ 1000000 := by
  unfold streamB at h
  simp only [Bool.and_eq_true] at h
  exact inR_of h.2
/-- A drawn index has a weight. -/
theorem pick_weight {s a : Int} {ws : List Int} (h : oB (pickR s a ws) = true) : ∃ i : Nat, oV (pickR s a ws) = i ∧ i < ws.length ∧ ¬ ws[i]?.getD 0 = 0 := by
  cases hb : pickB s a ws with
  | false => rw [pickR_no hb] at h; cases h
  | true =>
    have hs : streamB s a = true := by unfold pickB at hb; simp only [Bool.and_eq_true] at hb; exact hb.1
    obtain ⟨a0, a1⟩ := streamB_at hs
    cases hm : belowM s ws.sum a with
    | none => rw [pickR_none hb hm] at h; cases h
    | some r =>
      obtain ⟨v, a'⟩ := r
      obtain ⟨v0, v1, _⟩ := belowM_bd hm a0 a1
      obtain ⟨e1, e2⟩ := pickI_ne v0 v1
      exact ⟨pickI ws v, by rw [pickR_some hb hm]; rfl, e1, e2⟩
theorem cc_frac {a b : Int} {n : Nat} {L : List (Int × Int)} : ∀ {k : Nat}, lsO a b n k = some L → ∀ j, j < k → fracB (fx L j).1 (fx L j).2 = true := by
  intro k h j hj
  have he := lsO_at h j hj
  unfold elO at he
  cases h1 : powO a b j with
  | none => rw [h1] at he; cases he
  | some x1 =>
    cases h2 : powO (b - a) b (n - j) with
    | none => rw [h1, h2] at he; cases he
    | some x2 =>
      cases h3 : mulO x1.1 x1.2 x2.1 x2.2 with
      | none => rw [h1, h2] at he; simp only [Option.bind_some] at he; rw [h3] at he; cases he
      | some x3 =>
        rw [h1, h2] at he
        simp only [Option.bind_some] at he
        rw [h3] at he
        simp only [Option.bind_some] at he
        exact redO_frac he
theorem eb_order {a b k : Int} {lp lq hp hq : Int} (h : ebV a b k = some ((lp, lq), (hp, hq))) : fracB lp lq = true ∧ fracB hp hq = true ∧ lp * hq ≤ hp * lq := by
  unfold ebV at h
  split at h
  · rename_i hc
    have hb := (fracB_of (chanceB_of hc.1).1).1
    have hk := inR_of hc.2
    cases hh : ebS a b (2 * k.toNat) with
    | none => rw [hh] at h; cases h
    | some x =>
      cases hl : ebS a b (2 * k.toNat - 1) with
      | none => rw [hh, hl] at h; cases h
      | some y =>
        rw [hh, hl] at h
        simp only [Option.bind_some, Option.map_some, Option.some.injEq, Prod.mk.injEq] at h
        obtain ⟨rfl, rfl⟩ := h
        refine ⟨ebS_frac hl, ebS_frac hh, ?_⟩
        rw [show 2 * k.toNat = (2 * k.toNat - 1) + 1 by omega] at hh
        exact ebS_up hb (by omega) hl hh
  · cases h
end Go.Proofs.Ytgfihfmlofgopaa
