/- RecordKey, of the program and of the reference. -/
import Derived.Test.YtgeilnkglbcmeaaRKey
namespace Go.Proofs.Ytgeilnkglbcmeaa
open Go.RowKit

def rkB (sd : Int) (vs : List (ByteArray × Int)) (x y : Int) (xs : List Int) : Bool := inR sd 0 4611686016279904236 && (schB vs && recB vs x y xs)
def rkV (sd : Int) (vs : List (ByteArray × Int)) (x y : Int) (xs : List Int) : Int := if rkB sd vs x y xs = true then rkey sd x y xs else 0
theorem rkV_no {sd x y : Int} {vs : List (ByteArray × Int)} {xs : List Int} (h : rkB sd vs x y xs = false) : rkV sd vs x y xs = 0 := by rw [rkV, if_neg (by simp [h])]
theorem rkV_yes {sd x y : Int} {vs : List (ByteArray × Int)} {xs : List Int} (h : rkB sd vs x y xs = true) : rkV sd vs x y xs = rkey sd x y xs := by rw [rkV, if_pos h]
theorem recB_vals {vs : List (ByteArray × Int)} {x y : Int} {xs : List Int} (h : recB vs x y xs = true) : valsB vs xs = true := by simp only [recB, Bool.and_eq_true] at h; exact h.2.2
theorem allR_one (a : Int) : allR [a] 0 4611686016279904236 = inR a 0 4611686016279904236 := by simp [allR]
theorem cell_later {w w' : World} {p : Addr} {v : Value} (hb : Below w.heap.size w w') (h : w.cell? p = some v) : w'.cell? p = some v := (hb.cell (block_lt_of_cell h)).trans h

set_option maxHeartbeats 1000000 in
theorem implRecordKey_law (sd : Int) (A V : Option Addr) (n c m d : Nat) (x y : Int) (vs : List (ByteArray × Int)) (xs : List Int) (w : World) (hx : SchR w A n c vs) (hy : IntR w V m xs) :
    Calls Try.prog 26 #[.int .i64 sd, .slice A n c, .agg #[.int .i64 x, .int .i64 y, .slice V m d]] w fun e w' => e = .returned (.tuple #[.int .i64 (rkV sd vs x y xs), .bool (rkB sd vs x y xs)]) ∧ Below w.heap.size w w' := by
  have b0 := below_new w (.cells #[.int .i64 x, .int .i64 y, .slice V m d] 53)
  have hx0 := hx.below b0
  have hy0 := hy.below b0
  have c0 := box_cell (box_new w #[.int .i64 x, .int .i64 y, .slice V m d] 53) 0 (.int .i64 x) rfl
  have c1 := box_cell (box_new w #[.int .i64 x, .int .i64 y, .slice V m d] 53) 1 (.int .i64 y) rfl
  have c2 := box_cell (box_new w #[.int .i64 x, .int .i64 y, .slice V m d] 53) 2 (.slice V m d) rfl
  clear hx hy
  cases h0 : inR sd 0 4611686016279904236
  · have hB : rkB sd vs x y xs = false := by unfold rkB; simp [h0]
    have R := Lib.hid (rkV_no hB)
    have RB := Lib.hid hB
    have H0 := Lib.hid h0
    clear hB h0
    go_enter Try.func26, Try.ntmps26
    go_wp2_with fail
    generalize w.alloc (.cells #[.int .i64 x, .int .i64 y, .slice V m d] 53) = w0 at *
    refine (isSeed_any _ _).mono ?_
    rintro e w1 ⟨rfl, rfl⟩
    rw [H0.out]
    have B1 := Lib.hid b0
    go_wp2
    go_ret2
    exact ⟨ret_two R.out.symm RB.out.symm, B1.out⟩
  cases h1 : schB vs
  · have hB : rkB sd vs x y xs = false := by unfold rkB; simp [h0, h1]
    have R := Lib.hid (rkV_no hB)
    have RB := Lib.hid hB
    have H0 := Lib.hid h0
    have H1 := Lib.hid h1
    clear hB h0 h1
    go_enter Try.func26, Try.ntmps26
    go_wp2_with fail
    generalize w.alloc (.cells #[.int .i64 x, .int .i64 y, .slice V m d] 53) = w0 at *
    refine (isSeed_any _ _).mono ?_
    rintro e w1 ⟨rfl, rfl⟩
    rw [H0.out]
    have B1 := Lib.hid b0
    go_wp2_with fail
    refine (IsSchema_any _ n _ vs _ hx0.v hx0.s hx0.bd hx0.cp).mono ?_
    rintro e w2 ⟨rfl, b2⟩
    rw [H1.out]
    have hx2 := hx0.below b2
    have hy2 := hy0.below b2
    have B2 := Lib.hid (B1.out.trans (b2.mono B1.out.size))
    have d0 := cell_later b2 c0
    have d1 := cell_later b2 c1
    have d2 := cell_later b2 c2
    clear b2 c0 c1 c2 hx0 hy0 b0 B1
    go_wp2
    go_ret2
    exact ⟨ret_two R.out.symm RB.out.symm, B2.out⟩
  cases h2 : recB vs x y xs
  · have hB : rkB sd vs x y xs = false := by unfold rkB; simp [h0, h1, h2]
    have R := Lib.hid (rkV_no hB)
    have RB := Lib.hid hB
    have H0 := Lib.hid h0
    have H1 := Lib.hid h1
    have H2 := Lib.hid h2
    clear hB h0 h1 h2
    go_enter Try.func26, Try.ntmps26
    go_wp2_with fail
    generalize w.alloc (.cells #[.int .i64 x, .int .i64 y, .slice V m d] 53) = w0 at *
    refine (isSeed_any _ _).mono ?_
    rintro e w1 ⟨rfl, rfl⟩
    rw [H0.out]
    have B1 := Lib.hid b0
    go_wp2_with fail
    refine (IsSchema_any _ n _ vs _ hx0.v hx0.s hx0.bd hx0.cp).mono ?_
    rintro e w2 ⟨rfl, b2⟩
    rw [H1.out]
    have hx2 := hx0.below b2
    have hy2 := hy0.below b2
    have B2 := Lib.hid (B1.out.trans (b2.mono B1.out.size))
    have d0 := cell_later b2 c0
    have d1 := cell_later b2 c1
    have d2 := cell_later b2 c2
    clear b2 c0 c1 c2 hx0 hy0 b0 B1
    go_wp2_with fail
    refine (isRecord_any _ _ n _ m _ x y vs xs _ hx2.v hy2.i hx2.bd hy2.bd).mono ?_
    rintro e w3 ⟨rfl, b3⟩
    rw [H2.out]
    have hy3 := hy2.below b3
    have B3 := Lib.hid (B2.out.trans (b3.mono B2.out.size))
    have e0 := cell_later b3 d0
    have e1 := cell_later b3 d1
    have e2 := cell_later b3 d2
    clear b3 d0 d1 d2 hx2 hy2 B2
    go_wp2
    go_ret2
    exact ⟨ret_two R.out.symm RB.out.symm, B3.out⟩
  have hB : rkB sd vs x y xs = true := by unfold rkB; simp [h0, h1, h2]
  have R := Lib.hid (rkV_yes hB)
  have RB := Lib.hid hB
  have H0 := Lib.hid h0
  have H1 := Lib.hid h1
  have H2 := Lib.hid h2
  clear hB h0 h1 h2
  go_enter Try.func26, Try.ntmps26
  go_wp2_with fail
  generalize w.alloc (.cells #[.int .i64 x, .int .i64 y, .slice V m d] 53) = w0 at *
  refine (isSeed_any _ _).mono ?_
  rintro e w1 ⟨rfl, rfl⟩
  rw [H0.out]
  have B1 := Lib.hid b0
  go_wp2_with fail
  refine (IsSchema_any _ n _ vs _ hx0.v hx0.s hx0.bd hx0.cp).mono ?_
  rintro e w2 ⟨rfl, b2⟩
  rw [H1.out]
  have hx2 := hx0.below b2
  have hy2 := hy0.below b2
  have B2 := Lib.hid (B1.out.trans (b2.mono B1.out.size))
  have d0 := cell_later b2 c0
  have d1 := cell_later b2 c1
  have d2 := cell_later b2 c2
  clear b2 c0 c1 c2 hx0 hy0 b0 B1
  go_wp2_with fail
  refine (isRecord_any _ _ n _ m _ x y vs xs _ hx2.v hy2.i hx2.bd hy2.bd).mono ?_
  rintro e w3 ⟨rfl, b3⟩
  rw [H2.out]
  have hy3 := hy2.below b3
  have B3 := Lib.hid (B2.out.trans (b3.mono B2.out.size))
  have hm := (valsB_of (recB_vals H2.out)).1
  have hm2 := hx2.six H1.out
  rw [hx2.len, hy2.len] at hm
  have e0 := cell_later b3 d0
  have e1 := cell_later b3 d1
  have e2 := cell_later b3 d2
  have hmm : m ≤ 100000 := by omega
  clear hm
  clear b3 d0 d1 d2 hx2 hy2 B2
  go_wp2_with fail
  refine (recordKey_any sd x y _ m _ xs _ hy3.i hmm).mono ?_
  rintro e w4 ⟨rfl, b4⟩
  have B4 := Lib.hid (B3.out.trans (b4.mono B3.out.size))
  clear b4 e0 e1 e2 hy3 B3
  go_wp2
  go_ret2
  exact ⟨ret_two R.out.symm RB.out.symm, B4.out⟩

set_option maxHeartbeats 1000000 in
theorem specRecordKey_law (sd : Int) (A V : Option Addr) (n c m d : Nat) (x y : Int) (vs : List (ByteArray × Int)) (xs : List Int) (w : World) (hx : SchR w A n c vs) (hy : IntR w V m xs) :
    Calls Try.prog 27 #[.int .i64 sd, .slice A n c, .agg #[.int .i64 x, .int .i64 y, .slice V m d]] w fun e w' => e = .returned (.tuple #[.int .i64 (rkV sd vs x y xs), .bool (rkB sd vs x y xs)]) ∧ Below w.heap.size w w' := by
  have b0 := below_new w (.cells #[.int .i64 x, .int .i64 y, .slice V m d] 53)
  have hx0 := hx.below b0
  have hy0 := hy.below b0
  have c0 := box_cell (box_new w #[.int .i64 x, .int .i64 y, .slice V m d] 53) 0 (.int .i64 x) rfl
  have c1 := box_cell (box_new w #[.int .i64 x, .int .i64 y, .slice V m d] 53) 1 (.int .i64 y) rfl
  have c2 := box_cell (box_new w #[.int .i64 x, .int .i64 y, .slice V m d] 53) 2 (.slice V m d) rfl
  clear hx hy
  cases h0 : inR sd 0 4611686016279904236
  · have hB : rkB sd vs x y xs = false := by unfold rkB; simp [h0]
    have R := Lib.hid (rkV_no hB)
    have RB := Lib.hid hB
    have H0 := Lib.hid h0
    clear hB h0
    go_enter Try.func27, Try.ntmps27
    go_wp2_with fail
    have bl := below_new (w.alloc (.cells #[.int .i64 x, .int .i64 y, .slice V m d] 53)) (.cells #[.int .i64 sd] 3)
    have ol : Own ((w.alloc (.cells #[.int .i64 x, .int .i64 y, .slice V m d] 53)).alloc (.cells #[.int .i64 sd] 3)) (w.heap.size + 1) (some ⟨w.heap.size + 1, 0, none⟩) 1 1 [sd] := by simpa using own_new (w.alloc (.cells #[.int .i64 x, .int .i64 y, .slice V m d] 53)) [sd] 1 rfl (by omega)
    replace hx0 := hx0.below bl
    replace hy0 := hy0.below bl
    replace b0 := b0.trans (bl.mono b0.size)
    replace c0 := cell_later bl c0
    replace c1 := cell_later bl c1
    replace c2 := cell_later bl c2
    generalize (w.alloc (.cells #[.int .i64 x, .int .i64 y, .slice V m d] 53)).alloc (.cells #[.int .i64 sd] 3) = w0 at *
    refine (hDigest_any _ _ _ [sd] _ ol.ints (by omega)).mono ?_
    rintro e w1 ⟨rfl, rfl⟩
    rw [allR_one, H0.out]
    have B1 := Lib.hid b0
    clear ol bl
    go_wp2
    go_ret2
    exact ⟨ret_two R.out.symm RB.out.symm, B1.out⟩
  cases h1 : schB vs
  · have hB : rkB sd vs x y xs = false := by unfold rkB; simp [h0, h1]
    have R := Lib.hid (rkV_no hB)
    have RB := Lib.hid hB
    have H0 := Lib.hid h0
    have H1 := Lib.hid h1
    clear hB h0 h1
    go_enter Try.func27, Try.ntmps27
    go_wp2_with fail
    have bl := below_new (w.alloc (.cells #[.int .i64 x, .int .i64 y, .slice V m d] 53)) (.cells #[.int .i64 sd] 3)
    have ol : Own ((w.alloc (.cells #[.int .i64 x, .int .i64 y, .slice V m d] 53)).alloc (.cells #[.int .i64 sd] 3)) (w.heap.size + 1) (some ⟨w.heap.size + 1, 0, none⟩) 1 1 [sd] := by simpa using own_new (w.alloc (.cells #[.int .i64 x, .int .i64 y, .slice V m d] 53)) [sd] 1 rfl (by omega)
    replace hx0 := hx0.below bl
    replace hy0 := hy0.below bl
    replace b0 := b0.trans (bl.mono b0.size)
    replace c0 := cell_later bl c0
    replace c1 := cell_later bl c1
    replace c2 := cell_later bl c2
    generalize (w.alloc (.cells #[.int .i64 x, .int .i64 y, .slice V m d] 53)).alloc (.cells #[.int .i64 sd] 3) = w0 at *
    refine (hDigest_any _ _ _ [sd] _ ol.ints (by omega)).mono ?_
    rintro e w1 ⟨rfl, rfl⟩
    rw [allR_one, H0.out]
    have B1 := Lib.hid b0
    clear ol bl
    go_wp2_with fail
    refine (sGood_any _ n _ vs _ hx0.v hx0.s hx0.bd hx0.cp).mono ?_
    rintro e w2 ⟨rfl, b2⟩
    rw [H1.out]
    have hx2 := hx0.below b2
    have hy2 := hy0.below b2
    have B2 := Lib.hid (B1.out.trans (b2.mono B1.out.size))
    have d0 := cell_later b2 c0
    have d1 := cell_later b2 c1
    have d2 := cell_later b2 c2
    clear b2 c0 c1 c2 hx0 hy0 b0 B1
    go_wp2
    go_ret2
    exact ⟨ret_two R.out.symm RB.out.symm, B2.out⟩
  cases h2 : recB vs x y xs
  · have hB : rkB sd vs x y xs = false := by unfold rkB; simp [h0, h1, h2]
    have R := Lib.hid (rkV_no hB)
    have RB := Lib.hid hB
    have H0 := Lib.hid h0
    have H1 := Lib.hid h1
    have H2 := Lib.hid h2
    clear hB h0 h1 h2
    go_enter Try.func27, Try.ntmps27
    go_wp2_with fail
    have bl := below_new (w.alloc (.cells #[.int .i64 x, .int .i64 y, .slice V m d] 53)) (.cells #[.int .i64 sd] 3)
    have ol : Own ((w.alloc (.cells #[.int .i64 x, .int .i64 y, .slice V m d] 53)).alloc (.cells #[.int .i64 sd] 3)) (w.heap.size + 1) (some ⟨w.heap.size + 1, 0, none⟩) 1 1 [sd] := by simpa using own_new (w.alloc (.cells #[.int .i64 x, .int .i64 y, .slice V m d] 53)) [sd] 1 rfl (by omega)
    replace hx0 := hx0.below bl
    replace hy0 := hy0.below bl
    replace b0 := b0.trans (bl.mono b0.size)
    replace c0 := cell_later bl c0
    replace c1 := cell_later bl c1
    replace c2 := cell_later bl c2
    generalize (w.alloc (.cells #[.int .i64 x, .int .i64 y, .slice V m d] 53)).alloc (.cells #[.int .i64 sd] 3) = w0 at *
    refine (hDigest_any _ _ _ [sd] _ ol.ints (by omega)).mono ?_
    rintro e w1 ⟨rfl, rfl⟩
    rw [allR_one, H0.out]
    have B1 := Lib.hid b0
    clear ol bl
    go_wp2_with fail
    refine (sGood_any _ n _ vs _ hx0.v hx0.s hx0.bd hx0.cp).mono ?_
    rintro e w2 ⟨rfl, b2⟩
    rw [H1.out]
    have hx2 := hx0.below b2
    have hy2 := hy0.below b2
    have B2 := Lib.hid (B1.out.trans (b2.mono B1.out.size))
    have d0 := cell_later b2 c0
    have d1 := cell_later b2 c1
    have d2 := cell_later b2 c2
    clear b2 c0 c1 c2 hx0 hy0 b0 B1
    go_wp2_with fail
    refine (rGood_any _ _ n _ m _ x y vs xs _ hx2.v hy2.i (hx2.lev H1.out) hx2.bd hy2.bd).mono ?_
    rintro e w3 ⟨rfl, b3⟩
    rw [H2.out]
    have hy3 := hy2.below b3
    have B3 := Lib.hid (B2.out.trans (b3.mono B2.out.size))
    have e0 := cell_later b3 d0
    have e1 := cell_later b3 d1
    have e2 := cell_later b3 d2
    clear b3 d0 d1 d2 hx2 hy2 B2
    go_wp2
    go_ret2
    exact ⟨ret_two R.out.symm RB.out.symm, B3.out⟩
  have hB : rkB sd vs x y xs = true := by unfold rkB; simp [h0, h1, h2]
  have R := Lib.hid (rkV_yes hB)
  have RB := Lib.hid hB
  have H0 := Lib.hid h0
  have H1 := Lib.hid h1
  have H2 := Lib.hid h2
  clear hB h0 h1 h2
  go_enter Try.func27, Try.ntmps27
  go_wp2_with fail
  have bl := below_new (w.alloc (.cells #[.int .i64 x, .int .i64 y, .slice V m d] 53)) (.cells #[.int .i64 sd] 3)
  have ol : Own ((w.alloc (.cells #[.int .i64 x, .int .i64 y, .slice V m d] 53)).alloc (.cells #[.int .i64 sd] 3)) (w.heap.size + 1) (some ⟨w.heap.size + 1, 0, none⟩) 1 1 [sd] := by simpa using own_new (w.alloc (.cells #[.int .i64 x, .int .i64 y, .slice V m d] 53)) [sd] 1 rfl (by omega)
  replace hx0 := hx0.below bl
  replace hy0 := hy0.below bl
  replace b0 := b0.trans (bl.mono b0.size)
  replace c0 := cell_later bl c0
  replace c1 := cell_later bl c1
  replace c2 := cell_later bl c2
  generalize (w.alloc (.cells #[.int .i64 x, .int .i64 y, .slice V m d] 53)).alloc (.cells #[.int .i64 sd] 3) = w0 at *
  refine (hDigest_any _ _ _ [sd] _ ol.ints (by omega)).mono ?_
  rintro e w1 ⟨rfl, rfl⟩
  rw [allR_one, H0.out]
  have B1 := Lib.hid b0
  clear ol bl
  go_wp2_with fail
  refine (sGood_any _ n _ vs _ hx0.v hx0.s hx0.bd hx0.cp).mono ?_
  rintro e w2 ⟨rfl, b2⟩
  rw [H1.out]
  have hx2 := hx0.below b2
  have hy2 := hy0.below b2
  have B2 := Lib.hid (B1.out.trans (b2.mono B1.out.size))
  have d0 := cell_later b2 c0
  have d1 := cell_later b2 c1
  have d2 := cell_later b2 c2
  clear b2 c0 c1 c2 hx0 hy0 b0 B1
  go_wp2_with fail
  refine (rGood_any _ _ n _ m _ x y vs xs _ hx2.v hy2.i (hx2.lev H1.out) hx2.bd hy2.bd).mono ?_
  rintro e w3 ⟨rfl, b3⟩
  rw [H2.out]
  have hy3 := hy2.below b3
  have B3 := Lib.hid (B2.out.trans (b3.mono B2.out.size))
  have hm := (valsB_of (recB_vals H2.out)).1
  have hm2 := hx2.six H1.out
  rw [hx2.len, hy2.len] at hm
  have e0 := cell_later b3 d0
  have e1 := cell_later b3 d1
  have e2 := cell_later b3 d2
  have hmm : m ≤ 100000 := by omega
  clear hm
  clear b3 d0 d1 d2 hx2 hy2 B2
  go_wp2_with fail
  refine (yKey_any sd x y _ m _ xs _ hy3.i hmm).mono ?_
  rintro e w4 ⟨rfl, b4⟩
  have B4 := Lib.hid (B3.out.trans (b4.mono B3.out.size))
  clear b4 e0 e1 e2 hy3 B3
  go_wp2
  go_ret2
  exact ⟨ret_two R.out.symm RB.out.symm, B4.out⟩

end Go.Proofs.Ytgeilnkglbcmeaa
