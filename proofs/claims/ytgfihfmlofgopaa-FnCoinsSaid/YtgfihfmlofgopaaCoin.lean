/- Chances and coins, of the program and of the reference. -/
import Derived.Test.YtgfihfmlofgopaaFop
import Derived.Test.YtgfihfmlofgopaaZn
import Derived.Deep.RegionWith
namespace Go.Proofs.Ytgfihfmlofgopaa
open Go.RowKit

theorem fracB_sm {n d : Int} (h : fracB n d = true) : sm n ∧ sm d ∧ 1 ≤ d := by
  have := fracB_of h
  exact ⟨sm_of this.2.2.1 this.2.2.2.1, sm_of (by omega) this.2.1, this.1⟩
/-- A valid fraction from 0 to most. -/
def chanceB (n d most : Int) : Bool := fracB n d && (decide (0 ≤ n) && decide (n ≤ most * d))
theorem chanceB_1 {n d most : Int} (h : fracB n d = false) : chanceB n d most = false := by simp [chanceB, h]
theorem chanceB_2 {n d most : Int} (h : n < 0) : chanceB n d most = false := by simp [chanceB]; omega
theorem chanceB_3 {n d most : Int} (h : ¬ n ≤ most * d) : chanceB n d most = false := by simp [chanceB, h]
theorem chanceB_4 {n d most : Int} (h : fracB n d = true) (h0 : 0 ≤ n) (h1 : n ≤ most * d) : chanceB n d most = true := by simp [chanceB, h, h0, h1]
theorem chanceB_of {n d most : Int} (h : chanceB n d most = true) : fracB n d = true ∧ 0 ≤ n ∧ n ≤ most * d := by
  simpa [chanceB] using h
theorem sm_one : sm 1 := by unfold sm; decide

set_option maxHeartbeats 800000 in
theorem isChance_any (n d : Int) (w : World) :
    Calls Try.prog 26 #[.agg #[.int .i64 n, .int .i64 d]] w fun e w' => e = .returned (.bool (chanceB n d 1)) ∧ Below w.heap.size w w' := by
  go_enter Try.func26, Try.ntmps26
  go_wp2_with fail
  have x0 := box_new w #[.int .i64 n, .int .i64 d] 27
  refine (isFrac_any _ _ _).mono ?_
  rintro e w1 ⟨rfl, b1⟩
  replace x0 := box_below x0 b1
  have c0 := box_cell x0 0 _ rfl
  have c1 := box_cell x0 1 _ rfl
  replace b1 := (below_new w (.cells #[.int .i64 n, .int .i64 d] 27)).trans (b1.mono (by simp))
  cases hB : fracB n d
  · have R := Lib.hid (chanceB_1 (most := 1) hB)
    clear hB
    go_wp2
    go_ret
    exact ⟨ret_bool R.out.symm, b1⟩
  · by_cases h0 : 0 ≤ n
    · by_cases h1 : n ≤ d
      · have R := Lib.hid (chanceB_4 (most := 1) hB h0 (by omega))
        clear hB
        go_wp2
        go_ret
        exact ⟨ret_bool R.out.symm, b1⟩
      · have R := Lib.hid ((decide_eq_false h1).trans (chanceB_3 (n := n) (d := d) (most := 1) (by omega)).symm)
        clear hB
        go_wp2
        go_ret
        exact ⟨ret_bool R.out, b1⟩
    · have R := Lib.hid (chanceB_2 (n := n) (d := d) (most := 1) (by omega))
      clear hB
      go_wp2
      go_ret
      exact ⟨ret_bool R.out.symm, b1⟩

set_option maxHeartbeats 2000000 in
theorem kUnit_any (n d m : Int) (w : World) (hm : sm m) :
    Calls Try.prog 29 #[.agg #[.int .i64 n, .int .i64 d], .int .i64 m] w fun e w' => e = .returned (.bool (chanceB n d m)) ∧ Below w.heap.size w w' := by
  have b0 := below_new w (.cells #[.int .i64 n, .int .i64 d] 27)
  have x0 := box_new w #[.int .i64 n, .int .i64 d] 27
  cases hB : fracB n d
  · have R := Lib.hid (chanceB_1 (most := m) hB)
    have HB := Lib.hid hB
    clear hB
    go_enter Try.func29, Try.ntmps29
    go_wp2
    generalize w.alloc (.cells #[.int .i64 n, .int .i64 d] 27) = w0 at *
    have c0 := box_cell x0 0 _ rfl
    have c1 := box_cell x0 1 _ rfl
    first | (go_region_with ((go_at_call 65; refine (fGood_any _ _ _).mono ?_; rintro e w2 ⟨rfl, hb2⟩; rw [HB.out]; have x2 := (hb2.block w.heap.size (lt_of_block x0)).trans x0; have g0 := box_cell x2 0 _ rfl; have g1 := box_cell x2 1 _ rfl; have B2 := b0.drew.trans (hb2.mono b0.size)))) | fail
    all_goals (go_wp2; go_ret; exact ⟨ret_bool R.out.symm, B2⟩)
  · have hs := fracB_sm hB
    have hsn := hs.1
    have hsd := hs.2.1
    have HB := Lib.hid hB
    clear hs hB
    by_cases h0 : 0 ≤ n
    · have R4 := Lib.hid (fun h => chanceB_4 (n := n) (d := d) (most := m) HB.out h0 h)
      have R3 := Lib.hid (fun h => chanceB_3 (n := n) (d := d) (most := m) h)
      have E := Lib.hid (show decide (n - m * d ≤ 0) = chanceB n d m by
        by_cases h : n ≤ m * d
        · rw [R4.out h]; exact decide_eq_true (by omega)
        · rw [R3.out h]; exact decide_eq_false (by omega))
      clear R3 R4
      go_enter Try.func29, Try.ntmps29
      go_wp2
      generalize w.alloc (.cells #[.int .i64 n, .int .i64 d] 27) = w0 at *
      have c0 := box_cell x0 0 _ rfl
      have c1 := box_cell x0 1 _ rfl
      first | (go_region_with (first | (go_at_call 65; refine (fGood_any _ _ _).mono ?_; rintro e w2 ⟨rfl, hb2⟩; rw [HB.out]; have x2 := (hb2.block w.heap.size (lt_of_block x0)).trans x0; have g0 := box_cell x2 0 _ rfl; have g1 := box_cell x2 1 _ rfl; have B2 := b0.drew.trans (hb2.mono b0.size)) | (go_at_call 51; refine (fInt_any _ _).mono ?_; rintro e w3 ⟨rfl, hb3⟩; have x3 := (hb3.block w.heap.size (lt_of_block x2)).trans x2; have g2 := box_cell x3 0 _ rfl; have g3 := box_cell x3 1 _ rfl; have B3 := B2.trans (hb3.mono B2.size)) | (go_at_call 66; refine (fCmp_any _ _ _ _ _ hsn hsd hm sm_one).mono ?_; rintro e w4 ⟨rfl, hb4⟩; have x4 := (hb4.block w.heap.size (lt_of_block x3)).trans x3; have g4 := box_cell x4 0 _ rfl; have g5 := box_cell x4 1 _ rfl; have B4 := B3.trans (hb4.mono B3.size)))) | fail
      all_goals (go_wp2; go_ret; exact ⟨ret_bool E.out, B4⟩)
    · have R := Lib.hid (chanceB_2 (n := n) (d := d) (most := m) (by omega))
      have hd := decide_eq_false h0
      go_enter Try.func29, Try.ntmps29
      go_wp2
      generalize w.alloc (.cells #[.int .i64 n, .int .i64 d] 27) = w0 at *
      have c0 := box_cell x0 0 _ rfl
      have c1 := box_cell x0 1 _ rfl
      first | (go_region_with ((go_at_call 65; refine (fGood_any _ _ _).mono ?_; rintro e w2 ⟨rfl, hb2⟩; rw [HB.out]; have x2 := (hb2.block w.heap.size (lt_of_block x0)).trans x0; have g0 := box_cell x2 0 _ rfl; have g1 := box_cell x2 1 _ rfl; have B2 := b0.drew.trans (hb2.mono b0.size)))) | fail
      all_goals (go_wp2; go_ret; exact ⟨ret_bool R.out.symm, B2⟩)

/-- A coin. -/
def coinM (s p q a : Int) : Option (Bool × Int) := (belowM s q a).map fun r => (decide (r.1 < p), r.2)
theorem coinM_none {s p q a : Int} (h : belowM s q a = none) : coinM s p q a = none := by unfold coinM; rw [h]; rfl
theorem coinM_some {s p q a v a' : Int} (h : belowM s q a = some (v, a')) : coinM s p q a = some (decide (v < p), a') := by unfold coinM; rw [h]; rfl
theorem coinM_bd {s p q a a' : Int} {b : Bool} (h : coinM s p q a = some (b, a')) (h0 : 0 ≤ a) (h1 : a ≤ 1000000) : 0 ≤ a' ∧ a' ≤ 1000000 := by
  cases hM : belowM s q a with
  | none => rw [coinM_none hM] at h; cases h
  | some r =>
    obtain ⟨v, b2⟩ := r
    rw [coinM_some hM] at h
    simp only [Option.some.injEq, Prod.mk.injEq] at h
    have := belowM_bd hM h0 h1
    omega

set_option maxHeartbeats 800000 in
theorem coin_any (g : Nat) (s a p q : Int) (w : World) (h : StrAt w g s a) (h0 : 0 ≤ a) (h1 : a ≤ 1000000) (hq : 1 ≤ q) (hq2 : q ≤ 1000000000) :
    Calls Try.prog 27 #[.pointer (some ⟨g, 0, none⟩), .agg #[.int .i64 p, .int .i64 q]] w (SPost Value.bool g s (coinM s p q a) w) := by
  have hlt := h.lt
  have R0 := Lib.hid (fun hM => coinM_none (p := p) (q := q) (s := s) (a := a) hM)
  have R1 := Lib.hid (fun v a' hM => coinM_some (p := p) (q := q) (s := s) (a := a) (v := v) (a' := a') hM)
  generalize coinM s p q a = R at *
  have x0 := box_new w #[.int .i64 p, .int .i64 q] 27
  have b0 := below_new w (.cells #[.int .i64 p, .int .i64 q] 27)
  have hC := (Chg.refl g (g + 1) w).alloc (.cells #[.int .i64 p, .int .i64 q] 27)
  replace h := h.below b0
  go_enter Try.func27, Try.ntmps27
  go_wp2_with fail
  generalize w.alloc (.cells #[.int .i64 p, .int .i64 q] 27) = w0 at *
  refine (below_any g s a q w0 h h0 h1 hq hq2).mono ?_
  rintro e w4 ⟨hyes, hno, hc⟩
  replace x0 := box_chg x0 hc (.inr (by omega))
  replace hC := hC.trans hc
  have c0 := box_cell x0 0 _ rfl
  have c1 := box_cell x0 1 _ rfl
  clear hc h b0
  cases hM : belowM s q a with
  | none =>
    obtain ⟨z, a2, rfl, hr2⟩ := hno hM
    have E := Lib.hid (R0.out hM)
    clear hyes hno hM R0 R1
    go_wp2
    go_ret2
    exact SPost.no E.out hr2 hC
  | some r =>
    obtain ⟨v, a2⟩ := r
    obtain ⟨rfl, hr2⟩ := hyes v a2 hM
    have E := Lib.hid (R1.out v a2 hM)
    clear hyes hno hM R0 R1
    go_wp2
    go_ret2
    exact SPost.yes E.out hr2 hC

end Go.Proofs.Ytgfihfmlofgopaa
