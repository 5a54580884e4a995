/- Losses, variances, log ratios and exponents, of the program and of the reference. -/
import Derived.Test.YtfkdmddfadkjoaaAccK
namespace Go.Proofs.Ytfkdmddfadkjoaa
open Go.RowKit

theorem sq_le {s m : Int} (h0 : -m ≤ s) (h1 : s ≤ m) : 0 ≤ s * s ∧ s * s ≤ m * m := by
  refine ⟨sq_nonneg s, ?_⟩
  have h2 : s.natAbs * s.natAbs ≤ m.natAbs * m.natAbs := Nat.mul_le_mul (by omega) (by omega)
  have e1 : ((s.natAbs * s.natAbs : Nat) : Int) = s * s := by rw [Int.natCast_mul]; exact Int.natAbs_mul_self' s
  have e2 : ((m.natAbs * m.natAbs : Nat) : Int) = m * m := by rw [Int.natCast_mul]; exact Int.natAbs_mul_self' m
  omega
def sigR (n d s : Int) : Option (Int × Int) := if fracB n d = true ∧ 0 < n ∧ 1 ≤ s ∧ s ≤ 1000 then redO (s * s * d) (1 * (2 * n)) else none
theorem sigR_no {n d s : Int} (h : ¬ (fracB n d = true ∧ 0 < n ∧ 1 ≤ s ∧ s ≤ 1000)) : sigR n d s = none := by unfold sigR; rw [if_neg h]
theorem sigR_yes {n d s : Int} (h : fracB n d = true ∧ 0 < n ∧ 1 ≤ s ∧ s ≤ 1000) : sigR n d s = redO (s * s * d) (1 * (2 * n)) := by unfold sigR; rw [if_pos h]
def lossR (n d s : Int) : Option (Int × Int) := if sigmaB n d = true ∧ 0 ≤ s ∧ s ≤ 1000 then redO (s * s * d) (1 * (2 * n)) else none
theorem lossR_no {n d s : Int} (h : ¬ (sigmaB n d = true ∧ 0 ≤ s ∧ s ≤ 1000)) : lossR n d s = none := by unfold lossR; rw [if_neg h]
theorem lossR_yes {n d s : Int} (h : sigmaB n d = true ∧ 0 ≤ s ∧ s ≤ 1000) : lossR n d s = redO (s * s * d) (1 * (2 * n)) := by unfold lossR; rw [if_pos h]
def logR (n d i j : Int) : Option (Int × Int) := if sigmaB n d = true ∧ inR i (-10000) 10000 = true ∧ inR j (-10000) 10000 = true then redO ((j * j - i * i) * d) (1 * (2 * n)) else none
theorem logR_no {n d i j : Int} (h : ¬ (sigmaB n d = true ∧ inR i (-10000) 10000 = true ∧ inR j (-10000) 10000 = true)) : logR n d i j = none := by unfold logR; rw [if_neg h]
theorem logR_yes {n d i j : Int} (h : sigmaB n d = true ∧ inR i (-10000) 10000 = true ∧ inR j (-10000) 10000 = true) : logR n d i j = redO ((j * j - i * i) * d) (1 * (2 * n)) := by unfold logR; rw [if_pos h]
def accR (n d y : Int) : Option (Int × Int) := if sigmaB n d = true ∧ inR y (-1000000000) 1000000000 = true then accM n d y else none
theorem accR_no {n d y : Int} (h : ¬ (sigmaB n d = true ∧ inR y (-1000000000) 1000000000 = true)) : accR n d y = none := by unfold accR; rw [if_neg h]
theorem accR_yes {n d y : Int} (h : sigmaB n d = true ∧ inR y (-1000000000) 1000000000 = true) : accR n d y = accM n d y := by unfold accR; rw [if_pos h]

set_option maxRecDepth 100000 in
set_option maxHeartbeats 2000000 in
theorem implSigmaFor_law (n d s : Int) (w : World) :
    Calls Try.prog 63 #[.agg #[.int .i64 n, .int .i64 d], .int .i64 s] w fun e w' => e = .returned (.tuple #[.agg #[.int .i64 (fN (sigR n d s)), .int .i64 (fD (sigR n d s))], .bool (fB (sigR n d s))]) ∧ Below w.heap.size w w' := by
  have RN := Lib.hid (sigR_no (n := n) (d := d) (s := s))
  obtain ⟨b0, x2, x4⟩ := box_two w #[.int .i64 n, .int .i64 d] #[.int .i64 0, .int .i64 0] 28 28
  obtain ⟨R, hR⟩ : ∃ R, sigR n d s = R := ⟨_, rfl⟩
  rw [hR] at RN ⊢
  have HR := Lib.hid hR
  clear hR
  go_enter Try.func63, Try.ntmps63
  go_wp2_with fail
  generalize (w.alloc (.cells #[.int .i64 n, .int .i64 d] 28)).alloc (.cells #[.int .i64 0, .int .i64 0] 28) = w0 at *
  refine (isFrac_any _ _ _).mono ?_
  rintro e w1 ⟨rfl, b1⟩
  replace x2 := box_below x2 b1
  replace x4 := box_below x4 b1
  replace b1 := b0.trans (b1.mono b0.size)
  clear b0
  have x2l := lt_of_block x2
  have x2c0 := box_cell x2 0 _ rfl
  have x2c1 := box_cell x2 1 _ rfl
  have x4l := lt_of_block x4
  have x4c0 := box_cell x4 0 _ rfl
  have x4c1 := box_cell x4 1 _ rfl
  have x4f0 := box_free x4 0
  have x4f1 := box_free x4 1
  cases hF : fracB n d
  · have E := Lib.hid (RN.out (fun h => by rw [hF] at h; cases h.1))
    have y4 := store_two x4 (.int .i64 0) (.int .i64 0)
    have e0 := box_cell y4 0 _ rfl
    have e1 := box_cell y4 1 _ rfl
    have z1 := b1.size
    go_wp2
    refine bodyPost_ret (v := .tuple #[.agg #[.int .i64 0, .int .i64 0], .bool false]) (by simp [results, Try.results63, go_sem, e0, e1]) rfl ⟨fr_no E.out, below_two b1 (by omega)⟩
  · have hf := fracB_of hF
    have hd1 := hf.1
    have hd2 := hf.2.1
    have hn1 := hf.2.2.1
    have hn2 := hf.2.2.2.1
    clear hf
    by_cases h0 : 0 < n
    · by_cases h1 : 1 ≤ s
      · by_cases h2 : s ≤ 1000
        · have hsq := sq_le (s := s) (m := 1000) (by omega) (by omega)
          have hs1 := hsq.1
          have hs2 := hsq.2
          clear hsq
          have hmd := sm_mul (show sm (s * s) from sm_of (by omega) (by omega)) (show sm d from sm_of (by omega) (by omega))
          have hmd1 := hmd.1
          have hmd2 := hmd.2
          clear hmd
          have HY := Lib.hid (HR.out.symm.trans (sigR_yes ⟨hF, h0, h1, h2⟩))
          clear hF RN HR
          go_wp2_with fail
          have E := Lib.hid (HY.out.symm)
          refine (quotient_any _ _ _ _ _ (sm_of (by omega) (by omega)) (by omega) (by omega) (by omega) (by omega) (by omega) (by omega)).mono ?_
          rintro e w2 ⟨rfl, b2⟩
          clear x2c0 x2c1 x2l x4c0 x4c1 x4f0 x4f1 x4l
          replace x2 := box_below x2 b2
          replace x4 := box_below x4 b2
          replace b2 := b1.trans (b2.mono b1.size)
          clear b1
          have x4l := lt_of_block x4
          have x4c0 := box_cell x4 0 _ rfl
          have x4c1 := box_cell x4 1 _ rfl
          have x4f0 := box_free x4 0
          have x4f1 := box_free x4 1
          rw [E.out]
          have y4 := store_two x4 (.int .i64 (fN R)) (.int .i64 (fD R))
          have e0 := box_cell y4 0 _ rfl
          have e1 := box_cell y4 1 _ rfl
          have z2 := b2.size
          go_wp2
          refine bodyPost_ret (v := .tuple #[.agg #[.int .i64 (fN R), .int .i64 (fD R)], .bool (fB R)]) (by simp [results, Try.results63, go_sem, e0, e1]) rfl ⟨rfl, below_two b2 (by omega)⟩
        · have h3 : 1000 < s := by omega
          have E := Lib.hid (RN.out (fun h => h2 h.2.2.2))
          have y4 := store_two x4 (.int .i64 0) (.int .i64 0)
          have e0 := box_cell y4 0 _ rfl
          have e1 := box_cell y4 1 _ rfl
          have z1 := b1.size
          go_wp2
          refine bodyPost_ret (v := .tuple #[.agg #[.int .i64 0, .int .i64 0], .bool false]) (by simp [results, Try.results63, go_sem, e0, e1]) rfl ⟨fr_no E.out, below_two b1 (by omega)⟩
      · have E := Lib.hid (RN.out (fun h => h1 h.2.2.1))
        have y4 := store_two x4 (.int .i64 0) (.int .i64 0)
        have e0 := box_cell y4 0 _ rfl
        have e1 := box_cell y4 1 _ rfl
        have z1 := b1.size
        go_wp2
        refine bodyPost_ret (v := .tuple #[.agg #[.int .i64 0, .int .i64 0], .bool false]) (by simp [results, Try.results63, go_sem, e0, e1]) rfl ⟨fr_no E.out, below_two b1 (by omega)⟩
    · have E := Lib.hid (RN.out (fun h => h0 h.2.1))
      have y4 := store_two x4 (.int .i64 0) (.int .i64 0)
      have e0 := box_cell y4 0 _ rfl
      have e1 := box_cell y4 1 _ rfl
      have z1 := b1.size
      go_wp2
      refine bodyPost_ret (v := .tuple #[.agg #[.int .i64 0, .int .i64 0], .bool false]) (by simp [results, Try.results63, go_sem, e0, e1]) rfl ⟨fr_no E.out, below_two b1 (by omega)⟩

set_option maxRecDepth 100000 in
set_option maxHeartbeats 2000000 in
theorem specSigmaFor_law (n d s : Int) (w : World) :
    Calls Try.prog 64 #[.agg #[.int .i64 n, .int .i64 d], .int .i64 s] w fun e w' => e = .returned (.tuple #[.agg #[.int .i64 (fN (sigR n d s)), .int .i64 (fD (sigR n d s))], .bool (fB (sigR n d s))]) ∧ Below w.heap.size w w' := by
  have RN := Lib.hid (sigR_no (n := n) (d := d) (s := s))
  obtain ⟨b0, x2, x4⟩ := box_two w #[.int .i64 n, .int .i64 d] #[.int .i64 0, .int .i64 0] 28 28
  obtain ⟨R, hR⟩ : ∃ R, sigR n d s = R := ⟨_, rfl⟩
  rw [hR] at RN ⊢
  have HR := Lib.hid hR
  clear hR
  go_enter Try.func64, Try.ntmps64
  go_wp2_with fail
  generalize (w.alloc (.cells #[.int .i64 n, .int .i64 d] 28)).alloc (.cells #[.int .i64 0, .int .i64 0] 28) = w0 at *
  refine (fGood_any _ _ _).mono ?_
  rintro e w1 ⟨rfl, b1⟩
  replace x2 := box_below x2 b1
  replace x4 := box_below x4 b1
  replace b1 := b0.trans (b1.mono b0.size)
  clear b0
  have x2l := lt_of_block x2
  have x2c0 := box_cell x2 0 _ rfl
  have x2c1 := box_cell x2 1 _ rfl
  have x4l := lt_of_block x4
  have x4c0 := box_cell x4 0 _ rfl
  have x4c1 := box_cell x4 1 _ rfl
  have x4f0 := box_free x4 0
  have x4f1 := box_free x4 1
  cases hF : fracB n d
  · have E := Lib.hid (RN.out (fun h => by rw [hF] at h; cases h.1))
    have y4 := store_two x4 (.int .i64 0) (.int .i64 0)
    have e0 := box_cell y4 0 _ rfl
    have e1 := box_cell y4 1 _ rfl
    have z1 := b1.size
    go_wp2
    refine bodyPost_ret (v := .tuple #[.agg #[.int .i64 0, .int .i64 0], .bool false]) (by simp [results, Try.results64, go_sem, e0, e1]) rfl ⟨fr_no E.out, below_two b1 (by omega)⟩
  · have hf := fracB_of hF
    have hd1 := hf.1
    have hd2 := hf.2.1
    have hn1 := hf.2.2.1
    have hn2 := hf.2.2.2.1
    clear hf
    by_cases h0 : 0 < n
    · go_wp2_with fail
      refine (l1In_any _ _ _ _).mono ?_
      rintro e w2 ⟨rfl, rfl⟩
      cases hI : inR s 1 1000
      · have E := Lib.hid (RN.out (fun h => by rw [inR_yes h.2.2.1 h.2.2.2] at hI; cases hI))
        have y4 := store_two x4 (.int .i64 0) (.int .i64 0)
        have e0 := box_cell y4 0 _ rfl
        have e1 := box_cell y4 1 _ rfl
        have z1 := b1.size
        go_wp2
        refine bodyPost_ret (v := .tuple #[.agg #[.int .i64 0, .int .i64 0], .bool false]) (by simp [results, Try.results64, go_sem, e0, e1]) rfl ⟨fr_no E.out, below_two b1 (by omega)⟩
      · have hi := inR_of hI
        have h1 := hi.1
        have h2 := hi.2
        clear hi
        have hsq := sq_le (s := s) (m := 1000) (by omega) (by omega)
        have hs1 := hsq.1
        have hs2 := hsq.2
        clear hsq
        have hmd := sm_mul (show sm (s * s) from sm_of (by omega) (by omega)) (show sm d from sm_of (by omega) (by omega))
        have hmd1 := hmd.1
        have hmd2 := hmd.2
        clear hmd
        have HY := Lib.hid (HR.out.symm.trans (sigR_yes ⟨hF, h0, h1, h2⟩))
        clear hF hI RN HR
        go_wp2_with fail
        have E := Lib.hid ((congrArg (redO (s * s * d)) (Int.one_mul (2 * n)).symm).trans HY.out.symm)
        refine (fMake_any _ _ _ (by omega) (by omega) (by omega) (by omega)).mono ?_
        rintro e w2 ⟨rfl, b2⟩
        clear x2c0 x2c1 x2l x4c0 x4c1 x4f0 x4f1 x4l
        replace x2 := box_below x2 b2
        replace x4 := box_below x4 b2
        replace b2 := b1.trans (b2.mono b1.size)
        clear b1
        have x4l := lt_of_block x4
        have x4c0 := box_cell x4 0 _ rfl
        have x4c1 := box_cell x4 1 _ rfl
        have x4f0 := box_free x4 0
        have x4f1 := box_free x4 1
        rw [E.out]
        have y4 := store_two x4 (.int .i64 (fN R)) (.int .i64 (fD R))
        have e0 := box_cell y4 0 _ rfl
        have e1 := box_cell y4 1 _ rfl
        have z2 := b2.size
        go_wp2
        refine bodyPost_ret (v := .tuple #[.agg #[.int .i64 (fN R), .int .i64 (fD R)], .bool (fB R)]) (by simp [results, Try.results64, go_sem, e0, e1]) rfl ⟨rfl, below_two b2 (by omega)⟩
    · have E := Lib.hid (RN.out (fun h => h0 h.2.1))
      have y4 := store_two x4 (.int .i64 0) (.int .i64 0)
      have e0 := box_cell y4 0 _ rfl
      have e1 := box_cell y4 1 _ rfl
      have z1 := b1.size
      go_wp2
      refine bodyPost_ret (v := .tuple #[.agg #[.int .i64 0, .int .i64 0], .bool false]) (by simp [results, Try.results64, go_sem, e0, e1]) rfl ⟨fr_no E.out, below_two b1 (by omega)⟩

set_option maxRecDepth 100000 in
set_option maxHeartbeats 2000000 in
theorem implLossOf_law (n d s : Int) (w : World) :
    Calls Try.prog 65 #[.agg #[.int .i64 n, .int .i64 d], .int .i64 s] w fun e w' => e = .returned (.tuple #[.agg #[.int .i64 (fN (lossR n d s)), .int .i64 (fD (lossR n d s))], .bool (fB (lossR n d s))]) ∧ Below w.heap.size w w' := by
  have RN := Lib.hid (lossR_no (n := n) (d := d) (s := s))
  obtain ⟨b0, x2, x4⟩ := box_two w #[.int .i64 n, .int .i64 d] #[.int .i64 0, .int .i64 0] 28 28
  obtain ⟨R, hR⟩ : ∃ R, lossR n d s = R := ⟨_, rfl⟩
  rw [hR] at RN ⊢
  have HR := Lib.hid hR
  clear hR
  go_enter Try.func65, Try.ntmps65
  go_wp2_with fail
  generalize (w.alloc (.cells #[.int .i64 n, .int .i64 d] 28)).alloc (.cells #[.int .i64 0, .int .i64 0] 28) = w0 at *
  refine (isSigma2_any _ _ _).mono ?_
  rintro e w1 ⟨rfl, b1⟩
  replace x2 := box_below x2 b1
  replace x4 := box_below x4 b1
  replace b1 := b0.trans (b1.mono b0.size)
  clear b0
  have x2l := lt_of_block x2
  have x2c0 := box_cell x2 0 _ rfl
  have x2c1 := box_cell x2 1 _ rfl
  have x4l := lt_of_block x4
  have x4c0 := box_cell x4 0 _ rfl
  have x4c1 := box_cell x4 1 _ rfl
  have x4f0 := box_free x4 0
  have x4f1 := box_free x4 1
  cases hF : sigmaB n d
  · have E := Lib.hid (RN.out (fun h => by rw [hF] at h; cases h.1))
    have y4 := store_two x4 (.int .i64 0) (.int .i64 0)
    have e0 := box_cell y4 0 _ rfl
    have e1 := box_cell y4 1 _ rfl
    have z1 := b1.size
    go_wp2
    refine bodyPost_ret (v := .tuple #[.agg #[.int .i64 0, .int .i64 0], .bool false]) (by simp [results, Try.results65, go_sem, e0, e1]) rfl ⟨fr_no E.out, below_two b1 (by omega)⟩
  · have hsg := sigmaB_of hF
    have hf := fracB_of hsg.1
    have hn0 := hsg.2.1
    have hd1 := hf.1
    have hd2 := hf.2.1
    have hn2 := hf.2.2.2.1
    clear hf hsg
    by_cases h1 : 0 ≤ s
    · by_cases h2 : s ≤ 1000
      · have hsq := sq_le (s := s) (m := 1000) (by omega) (by omega)
        have hs1 := hsq.1
        have hs2 := hsq.2
        clear hsq
        have hmd := sm_mul (show sm (s * s) from sm_of (by omega) (by omega)) (show sm d from sm_of (by omega) (by omega))
        have hmd1 := hmd.1
        have hmd2 := hmd.2
        clear hmd
        have HY := Lib.hid (HR.out.symm.trans (lossR_yes ⟨hF, h1, h2⟩))
        clear hF RN HR
        go_wp2_with fail
        have E := Lib.hid (HY.out.symm)
        refine (quotient_any _ _ _ _ _ (sm_of (by omega) (by omega)) (by omega) (by omega) (by omega) (by omega) (by omega) (by omega)).mono ?_
        rintro e w2 ⟨rfl, b2⟩
        clear x2c0 x2c1 x2l x4c0 x4c1 x4f0 x4f1 x4l
        replace x2 := box_below x2 b2
        replace x4 := box_below x4 b2
        replace b2 := b1.trans (b2.mono b1.size)
        clear b1
        have x4l := lt_of_block x4
        have x4c0 := box_cell x4 0 _ rfl
        have x4c1 := box_cell x4 1 _ rfl
        have x4f0 := box_free x4 0
        have x4f1 := box_free x4 1
        rw [E.out]
        have y4 := store_two x4 (.int .i64 (fN R)) (.int .i64 (fD R))
        have e0 := box_cell y4 0 _ rfl
        have e1 := box_cell y4 1 _ rfl
        have z2 := b2.size
        go_wp2
        refine bodyPost_ret (v := .tuple #[.agg #[.int .i64 (fN R), .int .i64 (fD R)], .bool (fB R)]) (by simp [results, Try.results65, go_sem, e0, e1]) rfl ⟨rfl, below_two b2 (by omega)⟩
      · have h3 : 1000 < s := by omega
        have E := Lib.hid (RN.out (fun h => h2 h.2.2))
        have y4 := store_two x4 (.int .i64 0) (.int .i64 0)
        have e0 := box_cell y4 0 _ rfl
        have e1 := box_cell y4 1 _ rfl
        have z1 := b1.size
        go_wp2
        refine bodyPost_ret (v := .tuple #[.agg #[.int .i64 0, .int .i64 0], .bool false]) (by simp [results, Try.results65, go_sem, e0, e1]) rfl ⟨fr_no E.out, below_two b1 (by omega)⟩
    · have h3 : s < 0 := by omega
      have E := Lib.hid (RN.out (fun h => h1 h.2.1))
      have y4 := store_two x4 (.int .i64 0) (.int .i64 0)
      have e0 := box_cell y4 0 _ rfl
      have e1 := box_cell y4 1 _ rfl
      have z1 := b1.size
      go_wp2
      refine bodyPost_ret (v := .tuple #[.agg #[.int .i64 0, .int .i64 0], .bool false]) (by simp [results, Try.results65, go_sem, e0, e1]) rfl ⟨fr_no E.out, below_two b1 (by omega)⟩

set_option maxRecDepth 100000 in
set_option maxHeartbeats 2000000 in
theorem implLogRatio_law (n d i j : Int) (w : World) :
    Calls Try.prog 67 #[.agg #[.int .i64 n, .int .i64 d], .int .i64 i, .int .i64 j] w fun e w' => e = .returned (.tuple #[.agg #[.int .i64 (fN (logR n d i j)), .int .i64 (fD (logR n d i j))], .bool (fB (logR n d i j))]) ∧ Below w.heap.size w w' := by
  have RN := Lib.hid (logR_no (n := n) (d := d) (i := i) (j := j))
  obtain ⟨b0, x2, x4⟩ := box_two w #[.int .i64 n, .int .i64 d] #[.int .i64 0, .int .i64 0] 28 28
  obtain ⟨R, hR⟩ : ∃ R, logR n d i j = R := ⟨_, rfl⟩
  rw [hR] at RN ⊢
  have HR := Lib.hid hR
  clear hR
  go_enter Try.func67, Try.ntmps67
  go_wp2_with fail
  generalize (w.alloc (.cells #[.int .i64 n, .int .i64 d] 28)).alloc (.cells #[.int .i64 0, .int .i64 0] 28) = w0 at *
  refine (isSigma2_any _ _ _).mono ?_
  rintro e w1 ⟨rfl, b1⟩
  replace x2 := box_below x2 b1
  replace x4 := box_below x4 b1
  replace b1 := b0.trans (b1.mono b0.size)
  clear b0
  have x2l := lt_of_block x2
  have x2c0 := box_cell x2 0 _ rfl
  have x2c1 := box_cell x2 1 _ rfl
  have x4l := lt_of_block x4
  have x4c0 := box_cell x4 0 _ rfl
  have x4c1 := box_cell x4 1 _ rfl
  have x4f0 := box_free x4 0
  have x4f1 := box_free x4 1
  cases hF : sigmaB n d
  · have E := Lib.hid (RN.out (fun h => by rw [hF] at h; cases h.1))
    have y4 := store_two x4 (.int .i64 0) (.int .i64 0)
    have e0 := box_cell y4 0 _ rfl
    have e1 := box_cell y4 1 _ rfl
    have z1 := b1.size
    go_wp2
    refine bodyPost_ret (v := .tuple #[.agg #[.int .i64 0, .int .i64 0], .bool false]) (by simp [results, Try.results67, go_sem, e0, e1]) rfl ⟨fr_no E.out, below_two b1 (by omega)⟩
  · have hsg := sigmaB_of hF
    have hf := fracB_of hsg.1
    have hn0 := hsg.2.1
    have hd1 := hf.1
    have hd2 := hf.2.1
    have hn2 := hf.2.2.2.1
    clear hf hsg
    by_cases hij : (-10000 ≤ i ∧ i ≤ 10000) ∧ (-10000 ≤ j ∧ j ≤ 10000)
    · have hi0 : -10000 ≤ i := by omega
      have hi9 : i ≤ 10000 := by omega
      have hj0 : -10000 ≤ j := by omega
      have hj9 : j ≤ 10000 := by omega
      have k1 : ¬ 10000 < max i j := by omega
      have k2 : ¬ min i j < -10000 := by omega
      have hsi := sq_le (s := i) (m := 10000) (by omega) (by omega)
      have hsj := sq_le (s := j) (m := 10000) (by omega) (by omega)
      have hi1 := hsi.1
      have hi2 := hsi.2
      have hj1 := hsj.1
      have hj2 := hsj.2
      clear hsi hsj
      have hmd := sm_mul (show sm (j * j - i * i) from sm_of (by omega) (by omega)) (show sm d from sm_of (by omega) (by omega))
      have hmd1 := hmd.1
      have hmd2 := hmd.2
      clear hmd
      have HY := Lib.hid (HR.out.symm.trans (logR_yes ⟨hF, inR_yes hi0 hi9, inR_yes hj0 hj9⟩))
      clear hF RN HR
      go_wp2_with fail
      have E := Lib.hid (HY.out.symm)
      refine (quotient_any _ _ _ _ _ (sm_of (by omega) (by omega)) (by omega) (by omega) (by omega) (by omega) (by omega) (by omega)).mono ?_
      rintro e w2 ⟨rfl, b2⟩
      clear x2c0 x2c1 x2l x4c0 x4c1 x4f0 x4f1 x4l
      replace x2 := box_below x2 b2
      replace x4 := box_below x4 b2
      replace b2 := b1.trans (b2.mono b1.size)
      clear b1
      have x4l := lt_of_block x4
      have x4c0 := box_cell x4 0 _ rfl
      have x4c1 := box_cell x4 1 _ rfl
      have x4f0 := box_free x4 0
      have x4f1 := box_free x4 1
      rw [E.out]
      have y4 := store_two x4 (.int .i64 (fN R)) (.int .i64 (fD R))
      have e0 := box_cell y4 0 _ rfl
      have e1 := box_cell y4 1 _ rfl
      have z2 := b2.size
      go_wp2
      refine bodyPost_ret (v := .tuple #[.agg #[.int .i64 (fN R), .int .i64 (fD R)], .bool (fB R)]) (by simp [results, Try.results67, go_sem, e0, e1]) rfl ⟨rfl, below_two b2 (by omega)⟩
    · have hn : ¬ (sigmaB n d = true ∧ inR i (-10000) 10000 = true ∧ inR j (-10000) 10000 = true) := fun h => hij (by have a1 := inR_of h.2.1; have a2 := inR_of h.2.2; omega)
      by_cases k1 : 10000 < max i j
      · have E := Lib.hid (RN.out (hn))
        have y4 := store_two x4 (.int .i64 0) (.int .i64 0)
        have e0 := box_cell y4 0 _ rfl
        have e1 := box_cell y4 1 _ rfl
        have z1 := b1.size
        go_wp2
        refine bodyPost_ret (v := .tuple #[.agg #[.int .i64 0, .int .i64 0], .bool false]) (by simp [results, Try.results67, go_sem, e0, e1]) rfl ⟨fr_no E.out, below_two b1 (by omega)⟩
      · have k2 : min i j < -10000 := by omega
        have E := Lib.hid (RN.out (hn))
        have y4 := store_two x4 (.int .i64 0) (.int .i64 0)
        have e0 := box_cell y4 0 _ rfl
        have e1 := box_cell y4 1 _ rfl
        have z1 := b1.size
        go_wp2
        refine bodyPost_ret (v := .tuple #[.agg #[.int .i64 0, .int .i64 0], .bool false]) (by simp [results, Try.results67, go_sem, e0, e1]) rfl ⟨fr_no E.out, below_two b1 (by omega)⟩

set_option maxRecDepth 100000 in
set_option maxHeartbeats 2000000 in
theorem specLogRatio_law (n d i j : Int) (w : World) :
    Calls Try.prog 68 #[.agg #[.int .i64 n, .int .i64 d], .int .i64 i, .int .i64 j] w fun e w' => e = .returned (.tuple #[.agg #[.int .i64 (fN (logR n d i j)), .int .i64 (fD (logR n d i j))], .bool (fB (logR n d i j))]) ∧ Below w.heap.size w w' := by
  have RN := Lib.hid (logR_no (n := n) (d := d) (i := i) (j := j))
  obtain ⟨b0, x2, x4⟩ := box_two w #[.int .i64 n, .int .i64 d] #[.int .i64 0, .int .i64 0] 28 28
  obtain ⟨R, hR⟩ : ∃ R, logR n d i j = R := ⟨_, rfl⟩
  rw [hR] at RN ⊢
  have HR := Lib.hid hR
  clear hR
  go_enter Try.func68, Try.ntmps68
  go_wp2_with fail
  generalize (w.alloc (.cells #[.int .i64 n, .int .i64 d] 28)).alloc (.cells #[.int .i64 0, .int .i64 0] 28) = w0 at *
  refine (ySigma_any _ _ _).mono ?_
  rintro e w1 ⟨rfl, b1⟩
  replace x2 := box_below x2 b1
  replace x4 := box_below x4 b1
  replace b1 := b0.trans (b1.mono b0.size)
  clear b0
  have x2l := lt_of_block x2
  have x2c0 := box_cell x2 0 _ rfl
  have x2c1 := box_cell x2 1 _ rfl
  have x4l := lt_of_block x4
  have x4c0 := box_cell x4 0 _ rfl
  have x4c1 := box_cell x4 1 _ rfl
  have x4f0 := box_free x4 0
  have x4f1 := box_free x4 1
  cases hF : sigmaB n d
  · have E := Lib.hid (RN.out (fun h => by rw [hF] at h; cases h.1))
    have y4 := store_two x4 (.int .i64 0) (.int .i64 0)
    have e0 := box_cell y4 0 _ rfl
    have e1 := box_cell y4 1 _ rfl
    have z1 := b1.size
    go_wp2
    refine bodyPost_ret (v := .tuple #[.agg #[.int .i64 0, .int .i64 0], .bool false]) (by simp [results, Try.results68, go_sem, e0, e1]) rfl ⟨fr_no E.out, below_two b1 (by omega)⟩
  · have hsg := sigmaB_of hF
    have hf := fracB_of hsg.1
    have hn0 := hsg.2.1
    have hd1 := hf.1
    have hd2 := hf.2.1
    have hn2 := hf.2.2.2.1
    clear hf hsg
    go_wp2_with fail
    refine (l1In_any _ _ _ _).mono ?_
    rintro e w2 ⟨rfl, rfl⟩
    cases hI : inR i (-10000) 10000
    · have E := Lib.hid (RN.out (fun h => by rw [hI] at h; cases h.2.1))
      have y4 := store_two x4 (.int .i64 0) (.int .i64 0)
      have e0 := box_cell y4 0 _ rfl
      have e1 := box_cell y4 1 _ rfl
      have z1 := b1.size
      go_wp2
      refine bodyPost_ret (v := .tuple #[.agg #[.int .i64 0, .int .i64 0], .bool false]) (by simp [results, Try.results68, go_sem, e0, e1]) rfl ⟨fr_no E.out, below_two b1 (by omega)⟩
    · go_wp2_with fail
      refine (l1In_any _ _ _ _).mono ?_
      rintro e w3 ⟨rfl, rfl⟩
      cases hJ : inR j (-10000) 10000
      · have E := Lib.hid (RN.out (fun h => by rw [hJ] at h; cases h.2.2))
        have y4 := store_two x4 (.int .i64 0) (.int .i64 0)
        have e0 := box_cell y4 0 _ rfl
        have e1 := box_cell y4 1 _ rfl
        have z1 := b1.size
        go_wp2
        refine bodyPost_ret (v := .tuple #[.agg #[.int .i64 0, .int .i64 0], .bool false]) (by simp [results, Try.results68, go_sem, e0, e1]) rfl ⟨fr_no E.out, below_two b1 (by omega)⟩
      · have a1 := inR_of hI
        have a2 := inR_of hJ
        have hsi := sq_le (s := i) (m := 10000) (by omega) (by omega)
        have hsj := sq_le (s := j) (m := 10000) (by omega) (by omega)
        have hi1 := hsi.1
        have hi2 := hsi.2
        have hj1 := hsj.1
        have hj2 := hsj.2
        clear hsi hsj
        have hmd := sm_mul (show sm (j * j - i * i) from sm_of (by omega) (by omega)) (show sm d from sm_of (by omega) (by omega))
        have hmd1 := hmd.1
        have hmd2 := hmd.2
        clear hmd
        clear a1 a2
        have HY := Lib.hid (HR.out.symm.trans (logR_yes ⟨hF, hI, hJ⟩))
        clear hF hI hJ RN HR
        go_wp2_with fail
        have E := Lib.hid ((congrArg (redO ((j * j - i * i) * d)) (Int.one_mul (2 * n)).symm).trans HY.out.symm)
        refine (fMake_any _ _ _ (by omega) (by omega) (by omega) (by omega)).mono ?_
        rintro e w2 ⟨rfl, b2⟩
        clear x2c0 x2c1 x2l x4c0 x4c1 x4f0 x4f1 x4l
        replace x2 := box_below x2 b2
        replace x4 := box_below x4 b2
        replace b2 := b1.trans (b2.mono b1.size)
        clear b1
        have x4l := lt_of_block x4
        have x4c0 := box_cell x4 0 _ rfl
        have x4c1 := box_cell x4 1 _ rfl
        have x4f0 := box_free x4 0
        have x4f1 := box_free x4 1
        rw [E.out]
        have y4 := store_two x4 (.int .i64 (fN R)) (.int .i64 (fD R))
        have e0 := box_cell y4 0 _ rfl
        have e1 := box_cell y4 1 _ rfl
        have z2 := b2.size
        go_wp2
        refine bodyPost_ret (v := .tuple #[.agg #[.int .i64 (fN R), .int .i64 (fD R)], .bool (fB R)]) (by simp [results, Try.results68, go_sem, e0, e1]) rfl ⟨rfl, below_two b2 (by omega)⟩

set_option maxRecDepth 100000 in
set_option maxHeartbeats 2000000 in
theorem implAcceptExponent_law (n d y : Int) (w : World) :
    Calls Try.prog 74 #[.agg #[.int .i64 n, .int .i64 d], .int .i64 y] w fun e w' => e = .returned (.tuple #[.agg #[.int .i64 (fN (accR n d y)), .int .i64 (fD (accR n d y))], .bool (fB (accR n d y))]) ∧ Below w.heap.size w w' := by
  have RN := Lib.hid (accR_no (n := n) (d := d) (y := y))
  obtain ⟨b0, x2, x4⟩ := box_two w #[.int .i64 n, .int .i64 d] #[.int .i64 0, .int .i64 0] 28 28
  obtain ⟨R, hR⟩ : ∃ R, accR n d y = R := ⟨_, rfl⟩
  rw [hR] at RN ⊢
  have HR := Lib.hid hR
  clear hR
  go_enter Try.func74, Try.ntmps74
  go_wp2_with fail
  generalize (w.alloc (.cells #[.int .i64 n, .int .i64 d] 28)).alloc (.cells #[.int .i64 0, .int .i64 0] 28) = w0 at *
  refine (isSigma2_any _ _ _).mono ?_
  rintro e w1 ⟨rfl, b1⟩
  replace x2 := box_below x2 b1
  replace x4 := box_below x4 b1
  replace b1 := b0.trans (b1.mono b0.size)
  clear b0
  have x2l := lt_of_block x2
  have x2c0 := box_cell x2 0 _ rfl
  have x2c1 := box_cell x2 1 _ rfl
  have x4l := lt_of_block x4
  have x4c0 := box_cell x4 0 _ rfl
  have x4c1 := box_cell x4 1 _ rfl
  have x4f0 := box_free x4 0
  have x4f1 := box_free x4 1
  cases hF : sigmaB n d
  · have E := Lib.hid (RN.out (fun h => by rw [hF] at h; cases h.1))
    have y4 := store_two x4 (.int .i64 0) (.int .i64 0)
    have e0 := box_cell y4 0 _ rfl
    have e1 := box_cell y4 1 _ rfl
    have z1 := b1.size
    go_wp2
    refine bodyPost_ret (v := .tuple #[.agg #[.int .i64 0, .int .i64 0], .bool false]) (by simp [results, Try.results74, go_sem, e0, e1]) rfl ⟨fr_no E.out, below_two b1 (by omega)⟩
  · by_cases h1 : -1000000000 ≤ y
    · by_cases h2 : y ≤ 1000000000
      · have HF := Lib.hid hF
        have HY := Lib.hid (HR.out.symm.trans (accR_yes ⟨hF, inR_yes h1 h2⟩))
        clear hF RN HR
        go_wp2_with fail
        have E := Lib.hid (HY.out.symm)
        refine (acceptExponent_any _ _ _ _ HF.out (sm_of h1 h2)).mono ?_
        rintro e w2 ⟨rfl, b2⟩
        clear x2c0 x2c1 x2l x4c0 x4c1 x4f0 x4f1 x4l
        replace x2 := box_below x2 b2
        replace x4 := box_below x4 b2
        replace b2 := b1.trans (b2.mono b1.size)
        clear b1
        have x4l := lt_of_block x4
        have x4c0 := box_cell x4 0 _ rfl
        have x4c1 := box_cell x4 1 _ rfl
        have x4f0 := box_free x4 0
        have x4f1 := box_free x4 1
        rw [E.out]
        have y4 := store_two x4 (.int .i64 (fN R)) (.int .i64 (fD R))
        have e0 := box_cell y4 0 _ rfl
        have e1 := box_cell y4 1 _ rfl
        have z2 := b2.size
        go_wp2
        refine bodyPost_ret (v := .tuple #[.agg #[.int .i64 (fN R), .int .i64 (fD R)], .bool (fB R)]) (by simp [results, Try.results74, go_sem, e0, e1]) rfl ⟨rfl, below_two b2 (by omega)⟩
      · have h3 : 1000000000 < y := by omega
        have E := Lib.hid (RN.out (fun h => h2 (inR_of h.2).2))
        have y4 := store_two x4 (.int .i64 0) (.int .i64 0)
        have e0 := box_cell y4 0 _ rfl
        have e1 := box_cell y4 1 _ rfl
        have z1 := b1.size
        go_wp2
        refine bodyPost_ret (v := .tuple #[.agg #[.int .i64 0, .int .i64 0], .bool false]) (by simp [results, Try.results74, go_sem, e0, e1]) rfl ⟨fr_no E.out, below_two b1 (by omega)⟩
    · have h3 : y < -1000000000 := by omega
      have E := Lib.hid (RN.out (fun h => h1 (inR_of h.2).1))
      have y4 := store_two x4 (.int .i64 0) (.int .i64 0)
      have e0 := box_cell y4 0 _ rfl
      have e1 := box_cell y4 1 _ rfl
      have z1 := b1.size
      go_wp2
      refine bodyPost_ret (v := .tuple #[.agg #[.int .i64 0, .int .i64 0], .bool false]) (by simp [results, Try.results74, go_sem, e0, e1]) rfl ⟨fr_no E.out, below_two b1 (by omega)⟩

set_option maxRecDepth 100000 in
set_option maxHeartbeats 2000000 in
theorem specAcceptExponent_law (n d y : Int) (w : World) :
    Calls Try.prog 75 #[.agg #[.int .i64 n, .int .i64 d], .int .i64 y] w fun e w' => e = .returned (.tuple #[.agg #[.int .i64 (fN (accR n d y)), .int .i64 (fD (accR n d y))], .bool (fB (accR n d y))]) ∧ Below w.heap.size w w' := by
  have RN := Lib.hid (accR_no (n := n) (d := d) (y := y))
  obtain ⟨b0, x2, x4⟩ := box_two w #[.int .i64 n, .int .i64 d] #[.int .i64 0, .int .i64 0] 28 28
  obtain ⟨R, hR⟩ : ∃ R, accR n d y = R := ⟨_, rfl⟩
  rw [hR] at RN ⊢
  have HR := Lib.hid hR
  clear hR
  go_enter Try.func75, Try.ntmps75
  go_wp2_with fail
  generalize (w.alloc (.cells #[.int .i64 n, .int .i64 d] 28)).alloc (.cells #[.int .i64 0, .int .i64 0] 28) = w0 at *
  refine (ySigma_any _ _ _).mono ?_
  rintro e w1 ⟨rfl, b1⟩
  replace x2 := box_below x2 b1
  replace x4 := box_below x4 b1
  replace b1 := b0.trans (b1.mono b0.size)
  clear b0
  have x2l := lt_of_block x2
  have x2c0 := box_cell x2 0 _ rfl
  have x2c1 := box_cell x2 1 _ rfl
  have x4l := lt_of_block x4
  have x4c0 := box_cell x4 0 _ rfl
  have x4c1 := box_cell x4 1 _ rfl
  have x4f0 := box_free x4 0
  have x4f1 := box_free x4 1
  cases hF : sigmaB n d
  · have E := Lib.hid (RN.out (fun h => by rw [hF] at h; cases h.1))
    have y4 := store_two x4 (.int .i64 0) (.int .i64 0)
    have e0 := box_cell y4 0 _ rfl
    have e1 := box_cell y4 1 _ rfl
    have z1 := b1.size
    go_wp2
    refine bodyPost_ret (v := .tuple #[.agg #[.int .i64 0, .int .i64 0], .bool false]) (by simp [results, Try.results75, go_sem, e0, e1]) rfl ⟨fr_no E.out, below_two b1 (by omega)⟩
  · go_wp2_with fail
    refine (l1In_any _ _ _ _).mono ?_
    rintro e w2 ⟨rfl, rfl⟩
    cases hI : inR y (-1000000000) 1000000000
    · have E := Lib.hid (RN.out (fun h => by rw [hI] at h; cases h.2))
      have y4 := store_two x4 (.int .i64 0) (.int .i64 0)
      have e0 := box_cell y4 0 _ rfl
      have e1 := box_cell y4 1 _ rfl
      have z1 := b1.size
      go_wp2
      refine bodyPost_ret (v := .tuple #[.agg #[.int .i64 0, .int .i64 0], .bool false]) (by simp [results, Try.results75, go_sem, e0, e1]) rfl ⟨fr_no E.out, below_two b1 (by omega)⟩
    · have hy := inR_of hI
      have hys : sm y := sm_of hy.1 hy.2
      have HF := Lib.hid hF
      have HY := Lib.hid (HR.out.symm.trans (accR_yes ⟨hF, hI⟩))
      clear hF hI hy RN HR
      go_wp2_with fail
      have E := Lib.hid (HY.out.symm)
      refine (yAccept_any _ _ _ _ HF.out hys).mono ?_
      rintro e w2 ⟨rfl, b2⟩
      clear x2c0 x2c1 x2l x4c0 x4c1 x4f0 x4f1 x4l
      replace x2 := box_below x2 b2
      replace x4 := box_below x4 b2
      replace b2 := b1.trans (b2.mono b1.size)
      clear b1
      have x4l := lt_of_block x4
      have x4c0 := box_cell x4 0 _ rfl
      have x4c1 := box_cell x4 1 _ rfl
      have x4f0 := box_free x4 0
      have x4f1 := box_free x4 1
      rw [E.out]
      have y4 := store_two x4 (.int .i64 (fN R)) (.int .i64 (fD R))
      have e0 := box_cell y4 0 _ rfl
      have e1 := box_cell y4 1 _ rfl
      have z2 := b2.size
      go_wp2
      refine bodyPost_ret (v := .tuple #[.agg #[.int .i64 (fN R), .int .i64 (fD R)], .bool (fB R)]) (by simp [results, Try.results75, go_sem, e0, e1]) rfl ⟨rfl, below_two b2 (by omega)⟩
end Go.Proofs.Ytfkdmddfadkjoaa
