/- The exponent of the coin that accepts Gaussian noise: the walks. -/
import Derived.Test.YtfkdmddfadkjoaaAccW
import Derived.Deep.CutRange
import Derived.Deep.DeepCutAuto
namespace Go.Proofs.Ytfkdmddfadkjoaa
open Go.RowKit

theorem frac_nat {t : Nat} (h : t ≤ 1000000000) : fracB (t : Int) 1 = true := fracB_4 (inR_yes (by omega) (by omega)) (inR_yes (by omega) (by omega)) (by simp)
theorem frac_int {n : Int} (h : sm n) : fracB n 1 = true := fracB_4 (inR_yes (by omega) (by omega)) (inR_yes (sm_lo h) (sm_hi h)) (by simp)
theorem absI_sm {y : Int} (h : sm y) : sm (absI y) := by unfold absI sm at *; omega
theorem max_abs (y : Int) : max y (-y) = absI y := by unfold absI; omega
theorem divO_frac {a b c d p q : Int} (h : divO a b c d = some (p, q)) : fracB p q = true := by
  by_cases h0 : c = 0
  · rw [divO_no h0] at h; cases h
  · rw [divO_yes h0] at h; exact redO_frac h

set_option maxRecDepth 100000 in
set_option maxHeartbeats 2000000 in
theorem acceptExponent_any (p q y : Int) (w : World) (h : sigmaB p q = true) (hy : sm y) :
    Calls Try.prog 138 #[.agg #[.int .i64 p, .int .i64 q], .int .i64 y] w fun e w' => e = .returned (.tuple #[.agg #[.int .i64 (fN (accM p q y)), .int .i64 (fD (accM p q y))], .bool (fB (accM p q y))]) ∧ Below w.heap.size w w' := by
  have HS := Lib.hid h
  have hs := sigmaB_of h
  have hf := fracB_of hs.1
  have HF := Lib.hid hs.1
  have hp1 : 1 ≤ p := hs.2.1
  have hp2 := hf.2.2.2.1
  have hq1 := hf.1
  have hq2 := hf.2.1
  have HY := Lib.hid (frac_int (absI_sm hy))
  have hy0 := sm_lo hy
  have hy1 := sm_hi hy
  clear h hs hf
  have A1 := Lib.hid (accM_1 (p := p) (q := q) (y := y))
  have A2 := Lib.hid (fun m n => accM_2 (p := p) (q := q) (y := y) (m := m) (n := n))
  have A3 := Lib.hid (fun m n u v => accM_3 (p := p) (q := q) (y := y) (m := m) (n := n) (u := u) (v := v))
  have A4 := Lib.hid (fun m n u v a b => accM_4 (p := p) (q := q) (y := y) (m := m) (n := n) (u := u) (v := v) (a := a) (b := b))
  have HSc := Lib.hid (fun w => scaleFor_any p q w HS.out)
  obtain ⟨b0, x2, x4⟩ := box_two w #[.int .i64 p, .int .i64 q] #[.int .i64 0, .int .i64 0] 28 28
  generalize scaleM p q = t at *
  generalize accM p q y = R at *
  go_enter Try.func138, Try.ntmps138
  go_wp2_with fail
  generalize (w.alloc (.cells #[.int .i64 p, .int .i64 q] 28)).alloc (.cells #[.int .i64 0, .int .i64 0] 28) = w0 at *
  have l4 := lt_of_block x4
  refine (HSc.out _).mono ?_
  rintro e w1 ⟨rfl, ht1, ht2, b1⟩
  replace x2 := box_below x2 b1
  replace x4 := box_below x4 b1
  replace b1 := b0.trans (b1.mono b0.size)
  clear b0
  have x2l := lt_of_block x2
  have x2c0 := box_cell x2 0 _ rfl
  have x2c1 := box_cell x2 1 _ rfl
  go_wp2_with fail
  refine (divFrac_any _ _ _ _ _ HF.out (frac_nat (by omega))).mono ?_
  rintro e w2 ⟨rfl, b2⟩
  clear x2c0 x2c1 x2l
  replace x2 := box_below x2 b2
  replace x4 := box_below x4 b2
  replace b2 := b1.trans (b2.mono b1.size)
  clear b1
  have x2l := lt_of_block x2
  have x2c0 := box_cell x2 0 _ rfl
  have x2c1 := box_cell x2 1 _ rfl
  have x4l := lt_of_block x4
  have x4c0 := box_cell x4 0 _ rfl
  have x4c1 := box_cell x4 1 _ rfl
  have x4f0 := box_free x4 0
  have x4f1 := box_free x4 1
  cases hM : divO p q (t : Int) 1 with
  | none =>
    have E := Lib.hid (A1.out hM)
    simp only [fN, fD, fB]
    clear hM
    have y4 := store_two x4 (.int .i64 0) (.int .i64 0)
    have y40 := box_below y4 (below_new _ (.cells #[.int .i64 0, .int .i64 0] 28))
    have e0 := box_cell y40 0 _ rfl
    have e1 := box_cell y40 1 _ rfl
    have z2 := b2.size
    go_wp2
    refine bodyPost_ret (v := .tuple #[.agg #[.int .i64 0, .int .i64 0], .bool false]) (by simp [results, Try.results138, go_sem, e0, e1]) rfl ⟨fr_no E.out, (below_two b2 (by omega)).alloc (by simp; omega) _⟩
  | some r =>
    obtain ⟨m, n⟩ := r
    have HM := Lib.hid hM
    simp only [fN, fD, fB]
    clear hM
    have HMf := Lib.hid (divO_frac HM.out)
    go_wp2_with fail
    clear x2c0 x2c1 x2l x4c0 x4c1 x4f0 x4f1 x4l
    have x7 := box_new w2 #[.int .i64 m, .int .i64 n] 28
    replace x2 := box_below x2 (below_new w2 (.cells #[.int .i64 m, .int .i64 n] 28))
    replace x4 := box_below x4 (below_new w2 (.cells #[.int .i64 m, .int .i64 n] 28))
    have b3 := b2.trans ((below_new w2 (.cells #[.int .i64 m, .int .i64 n] 28)).mono b2.size)
    have s2 := b2.size
    clear b2
    generalize w2.alloc (.cells #[.int .i64 m, .int .i64 n] 28) = w3 at *
    have x4l := lt_of_block x4
    have x4c0 := box_cell x4 0 _ rfl
    have x4c1 := box_cell x4 1 _ rfl
    have x4f0 := box_free x4 0
    have x4f1 := box_free x4 1
    rw [max_abs]
    refine (subFrac_any _ _ _ _ _ HY.out HMf.out).mono ?_
    rintro e w4 ⟨rfl, b4⟩
    clear x4c0 x4c1 x4f0 x4f1 x4l
    replace x2 := box_below x2 b4
    replace x4 := box_below x4 b4
    replace x7 := box_below x7 b4
    replace b4 := b3.trans (b4.mono b3.size)
    clear b3
    have x2l := lt_of_block x2
    have x2c0 := box_cell x2 0 _ rfl
    have x2c1 := box_cell x2 1 _ rfl
    have x4l := lt_of_block x4
    have x4c0 := box_cell x4 0 _ rfl
    have x4c1 := box_cell x4 1 _ rfl
    have x4f0 := box_free x4 0
    have x4f1 := box_free x4 1
    cases hM : subO (absI y) 1 m n with
    | none =>
      have E := Lib.hid (A2.out _ _ HM.out hM)
      simp only [fN, fD, fB]
      clear hM
      have y4 := store_two x4 (.int .i64 0) (.int .i64 0)
      have y40 := box_below y4 (below_new _ (.cells #[.int .i64 0, .int .i64 0] 28))
      have e0 := box_cell y40 0 _ rfl
      have e1 := box_cell y40 1 _ rfl
      have z4 := b4.size
      go_wp2
      refine bodyPost_ret (v := .tuple #[.agg #[.int .i64 0, .int .i64 0], .bool false]) (by simp [results, Try.results138, go_sem, e0, e1]) rfl ⟨fr_no E.out, (below_two b4 (by omega)).alloc (by simp; omega) _⟩
    | some r =>
      obtain ⟨u, v⟩ := r
      have HD := Lib.hid hM
      simp only [fN, fD, fB]
      clear hM
      have HDf := Lib.hid (redO_frac HD.out)
      go_wp2_with fail
      clear x2c0 x2c1 x2l x4c0 x4c1 x4f0 x4f1 x4l
      have x9 := box_new w4 #[.int .i64 u, .int .i64 v] 28
      replace x2 := box_below x2 (below_new w4 (.cells #[.int .i64 u, .int .i64 v] 28))
      replace x4 := box_below x4 (below_new w4 (.cells #[.int .i64 u, .int .i64 v] 28))
      replace x7 := box_below x7 (below_new w4 (.cells #[.int .i64 u, .int .i64 v] 28))
      have b5 := b4.trans ((below_new w4 (.cells #[.int .i64 u, .int .i64 v] 28)).mono b4.size)
      have s4 := b4.size
      clear b4
      generalize w4.alloc (.cells #[.int .i64 u, .int .i64 v] 28) = w5 at *
      have x9l := lt_of_block x9
      have x9c0 := box_cell x9 0 _ rfl
      have x9c1 := box_cell x9 1 _ rfl
      refine (mulFrac_any _ _ _ _ _ HDf.out HDf.out).mono ?_
      rintro e w6 ⟨rfl, b6⟩
      clear x9c0 x9c1 x9l
      replace x2 := box_below x2 b6
      replace x4 := box_below x4 b6
      replace x7 := box_below x7 b6
      replace x9 := box_below x9 b6
      replace b6 := b5.trans (b6.mono b5.size)
      clear b5
      have x2l := lt_of_block x2
      have x2c0 := box_cell x2 0 _ rfl
      have x2c1 := box_cell x2 1 _ rfl
      have x4l := lt_of_block x4
      have x4c0 := box_cell x4 0 _ rfl
      have x4c1 := box_cell x4 1 _ rfl
      have x4f0 := box_free x4 0
      have x4f1 := box_free x4 1
      cases hM : mulO u v u v with
      | none =>
        have E := Lib.hid (A3.out _ _ _ _ HM.out HD.out hM)
        simp only [fN, fD, fB]
        clear hM
        have y4 := store_two x4 (.int .i64 0) (.int .i64 0)
        have y40 := box_below y4 (below_new _ (.cells #[.int .i64 0, .int .i64 0] 28))
        have e0 := box_cell y40 0 _ rfl
        have e1 := box_cell y40 1 _ rfl
        have z6 := b6.size
        go_wp2
        refine bodyPost_ret (v := .tuple #[.agg #[.int .i64 0, .int .i64 0], .bool false]) (by simp [results, Try.results138, go_sem, e0, e1]) rfl ⟨fr_no E.out, (below_two b6 (by omega)).alloc (by simp; omega) _⟩
      | some r =>
        obtain ⟨a, b⟩ := r
        have HQ := Lib.hid hM
        simp only [fN, fD, fB]
        clear hM
        have hsq := mulO_sq HQ.out (fracB_of HDf.out).1
        have hq5 := hsq.1
        have hq6 := hsq.2.1
        have hq7 := hsq.2.2.1
        have hq8 := hsq.2.2.2
        clear hsq
        go_wp2_with fail
        clear x2c0 x2c1 x2l x4c0 x4c1 x4f0 x4f1 x4l
        have x10 := box_new w6 #[.int .i64 a, .int .i64 b] 28
        replace x2 := box_below x2 (below_new w6 (.cells #[.int .i64 a, .int .i64 b] 28))
        replace x4 := box_below x4 (below_new w6 (.cells #[.int .i64 a, .int .i64 b] 28))
        replace x7 := box_below x7 (below_new w6 (.cells #[.int .i64 a, .int .i64 b] 28))
        replace x9 := box_below x9 (below_new w6 (.cells #[.int .i64 a, .int .i64 b] 28))
        have b7 := b6.trans ((below_new w6 (.cells #[.int .i64 a, .int .i64 b] 28)).mono b6.size)
        have s6 := b6.size
        clear b6
        generalize w6.alloc (.cells #[.int .i64 a, .int .i64 b] 28) = w7 at *
        have x10l := lt_of_block x10
        have x10c0 := box_cell x10 0 _ rfl
        have x10c1 := box_cell x10 1 _ rfl
        have x2l := lt_of_block x2
        have x2c0 := box_cell x2 0 _ rfl
        have x2c1 := box_cell x2 1 _ rfl
        refine (quotient_any _ _ _ _ _ (sm_of (by omega) (by omega)) hq7 hq8 (by omega) (by omega) (by omega) (by omega)).mono ?_
        rintro e w8 ⟨rfl, b8⟩
        clear x10c0 x10c1 x10l x2c0 x2c1 x2l
        replace x2 := box_below x2 b8
        replace x4 := box_below x4 b8
        replace x7 := box_below x7 b8
        replace x9 := box_below x9 b8
        replace x10 := box_below x10 b8
        replace b8 := b7.trans (b8.mono b7.size)
        clear b7
        have x4l := lt_of_block x4
        have x4c0 := box_cell x4 0 _ rfl
        have x4c1 := box_cell x4 1 _ rfl
        have x4f0 := box_free x4 0
        have x4f1 := box_free x4 1
        have E := Lib.hid (A4.out _ _ _ _ _ _ HM.out HD.out HQ.out)
        rw [← E.out]
        have y4 := store_two x4 (.int .i64 (fN R)) (.int .i64 (fD R))
        have e0 := box_cell y4 0 _ rfl
        have e1 := box_cell y4 1 _ rfl
        have z8 := b8.size
        go_wp2
        refine bodyPost_ret (v := .tuple #[.agg #[.int .i64 (fN R), .int .i64 (fD R)], .bool (fB R)]) (by simp [results, Try.results138, go_sem, e0, e1]) rfl ⟨rfl, below_two b8 (by omega)⟩
end Go.Proofs.Ytfkdmddfadkjoaa
