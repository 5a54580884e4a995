/- CoinChances of the program; printed by gci.py. -/
import Derived.Test.YtgfihfmlofgopaaCnC
namespace Go.Proofs.Ytgfihfmlofgopaa
open Go.RowKit

/-- A row of fractions and whether it is there, given back. -/
def RetFs (w : World) (X : Option (List (Int × Int))) (e : Ending) (w' : World) : Prop :=
  ∃ A' c', e = .returned (.tuple #[.slice A' (X.getD []).length c', .bool X.isSome]) ∧ FracsR w' A' (X.getD []).length (X.getD []) ∧ Below w.heap.size w w'
theorem FracsR.nil_ {w : World} {A : Option Addr} : FracsR w A 0 [] := ⟨rfl, fun h => absurd h (by omega)⟩
def ccV (a b n : Int) : Option (List (Int × Int)) := if chanceB a b 1 = true ∧ inR n 0 8 = true then lsO a b n.toNat (n.toNat + 1) else none
theorem ccV_1 {a b n : Int} (h : chanceB a b 1 = false) : ccV a b n = none := by unfold ccV; rw [if_neg (by simp [h])]
theorem ccV_2 {a b n : Int} (h : inR n 0 8 = false) : ccV a b n = none := by unfold ccV; rw [if_neg (by simp [h])]
theorem ccV_3 {a b : Int} {N : Nat} (h : chanceB a b 1 = true) (h2 : N ≤ 8) : ccV a b (N : Int) = lsO a b N (N + 1) := by unfold ccV; rw [if_pos ⟨h, inR_yes (by omega) (by omega)⟩, Int.toNat_natCast]
theorem elO_1 {a b : Int} {n i : Nat} (h : powO a b i = none) : elO a b n i = none := by unfold elO; rw [h]; rfl
theorem elO_2 {a b p q : Int} {n i : Nat} (h : powO a b i = some (p, q)) (h2 : powO (b - a) b (n - i) = none) : elO a b n i = none := by unfold elO; rw [h, h2]; rfl
theorem elO_3 {a b p q p' q' : Int} {n i : Nat} (h : powO a b i = some (p, q)) (h2 : powO (b - a) b (n - i) = some (p', q')) (h3 : mulO p q p' q' = none) : elO a b n i = none := by unfold elO; rw [h, h2]; simp only [Option.bind_some]; rw [h3]; rfl
theorem elO_4 {a b p q p' q' r s : Int} {n i : Nat} (h : powO a b i = some (p, q)) (h2 : powO (b - a) b (n - i) = some (p', q')) (h3 : mulO p q p' q' = some (r, s)) : elO a b n i = mulO r s (chv n i : Nat) 1 := by unfold elO; rw [h, h2]; simp only [Option.bind_some]; rw [h3]; rfl
theorem mulO_comm (n d p q : Int) : mulO n d p q = mulO p q n d := by unfold mulO; rw [Int.mul_comm n, Int.mul_comm d]
theorem chv_frac {n i : Nat} (hn : n ≤ 8) (hi : i ≤ n) : fracB ((chv n i : Nat) : Int) 1 = true := by
  obtain ⟨h1, h2⟩ := chv_bd n (by omega) i (by omega)
  exact fracB_4 (inR_yes (by omega) (by omega)) (inR_yes (by omega) (by omega)) (by simp)
theorem row_below {w w' : World} {lo n sz : Nat} {T : TypeId} {v : Value} {ys : List Value} (h : w.ownsRow lo T sz v n ys) (hb : Below w.heap.size w w') : w'.ownsRow lo T sz v n ys := by
  refine ⟨h.1, ?_⟩
  rcases h.2 with h0 | ⟨g, cap, cur, hv, hl, hg, hr⟩
  · exact .inl h0
  · exact .inr ⟨g, cap, cur, hv, hl, (hb.block g (lt_of_block hg)).trans hg, hr⟩
theorem row_two {w : World} {lo n c g k : Nat} {T : TypeId} {ys : List Value} (h : w.ownsRow lo T 2 (.slice (some ⟨g, 0, none⟩) n c) n ys) (hk : k < n) :
    (∃ u, w.cell? ⟨g, k * 2, none⟩ = some u) ∧ (∃ u, w.cell? ⟨g, k * 2 + 1, none⟩ = some u) ∧ w.frozen? ⟨g, k * 2, none⟩ = false ∧ w.frozen? ⟨g, k * 2 + 1, none⟩ = false := by
  have hl := h.1
  refine ⟨⟨ys[k * 2]'(by omega), ?_⟩, ⟨ys[k * 2 + 1]'(by omega), ?_⟩, World.ownsRow.frozenAt h _, World.ownsRow.frozenAt h _⟩
  · rw [World.ownsRow.cellAt h _ (by omega), List.getElem?_eq_getElem]
  · rw [World.ownsRow.cellAt h _ (by omega), List.getElem?_eq_getElem]

set_option maxRecDepth 100000 in
set_option maxHeartbeats 4000000 in
theorem implCoinChances_any (a b n : Int) (w : World) :
    Calls Try.prog 15 #[.agg #[.int .i64 a, .int .i64 b], .int .i64 n] w (RetFs w (ccV a b n)) := by
  have b0 := below_new w (.cells #[.int .i64 a, .int .i64 b] 27)
  have x0 := box_new w #[.int .i64 a, .int .i64 b] 27
  cases hc : chanceB a b 1
  · have R := Lib.hid (ccV_1 (n := n) hc)
    rw [R.out]
    have HC := Lib.hid hc
    clear hc
    go_enter Try.func15, Try.ntmps15
    go_wp2_with fail
    generalize w.alloc (.cells #[.int .i64 a, .int .i64 b] 27) = w0 at *
    refine (isChance_any _ _ _).mono ?_
    rintro e w1 ⟨rfl, b1⟩
    rw [HC.out]
    have B1 := Lib.hid (b0.trans (b1.mono b0.size))
    clear b0 b1 x0
    go_wp2
    go_ret2
    exact ⟨none, 0, rfl, FracsR.nil_, B1.out⟩
  have HC := Lib.hid hc
  by_cases h1 : n < 0
  · have R := Lib.hid (ccV_2 (a := a) (b := b) (inR_no (show ¬ (0 ≤ n ∧ n ≤ 8) by omega)))
    rw [R.out]
    clear hc
    go_enter Try.func15, Try.ntmps15
    go_wp2_with fail
    generalize w.alloc (.cells #[.int .i64 a, .int .i64 b] 27) = w0 at *
    refine (isChance_any _ _ _).mono ?_
    rintro e w1 ⟨rfl, b1⟩
    rw [HC.out]
    have B1 := Lib.hid (b0.trans (b1.mono b0.size))
    clear b0 b1 x0
    go_wp2
    go_ret2
    exact ⟨none, 0, rfl, FracsR.nil_, B1.out⟩
  by_cases h2 : 8 < n
  · have R := Lib.hid (ccV_2 (a := a) (b := b) (inR_no (show ¬ (0 ≤ n ∧ n ≤ 8) by omega)))
    rw [R.out]
    clear hc
    go_enter Try.func15, Try.ntmps15
    go_wp2_with fail
    generalize w.alloc (.cells #[.int .i64 a, .int .i64 b] 27) = w0 at *
    refine (isChance_any _ _ _).mono ?_
    rintro e w1 ⟨rfl, b1⟩
    rw [HC.out]
    have B1 := Lib.hid (b0.trans (b1.mono b0.size))
    clear b0 b1 x0
    go_wp2
    go_ret2
    exact ⟨none, 0, rfl, FracsR.nil_, B1.out⟩
  obtain ⟨N, rfl⟩ := Int.eq_ofNat_of_zero_le (show 0 ≤ n by omega)
  have hN : N ≤ 8 := by omega
  rw [ccV_3 hc hN]
  obtain ⟨CV, hCV⟩ : ∃ X, lsO a b N (N + 1) = X := ⟨_, rfl⟩
  have HCV := Lib.hid hCV
  rw [hCV]
  clear hCV
  obtain ⟨hf, ha0, hab'⟩ := chanceB_of hc
  have hab : a ≤ b := by omega
  clear hab'
  have HF := Lib.hid hf
  have HG := Lib.hid (rest_frac hf ha0 hab)
  have hfo := fracB_of hf
  obtain ⟨hb1, hb9, hn0, hn9, _⟩ := hfo
  clear hc h1 h2 hf
  obtain ⟨i0, hi, hz0, hz1, hz2⟩ := info_parts Try.infoFrac
  go_enter Try.func15, Try.ntmps15
  go_wp2_with fail
  generalize w.alloc (.cells #[.int .i64 a, .int .i64 b] 27) = w0 at *
  refine (isChance_any _ _ _).mono ?_
  rintro e w1 ⟨rfl, b1⟩
  rw [HC.out]
  have x1 := box_below x0 b1
  have lx1 := lt_of_block x1
  have c10 := box_cell x1 0 _ rfl
  have c11 := box_cell x1 1 _ rfl
  have B1 := b0.trans (b1.mono b0.size)
  have S1 := B1.size
  have bq := below_new w1 (.cells #[.int .i64 (b - a), .int .i64 b] 27)
  have xq := box_new w1 #[.int .i64 (b - a), .int .i64 b] 27
  have x1q := box_below x1 bq
  have szq : (w1.alloc (.cells #[.int .i64 (b - a), .int .i64 b] 27)).heap.size = w1.heap.size + 1 := by simp
  have HSQ := Lib.hid szq
  clear szq b0 b1 x0 x1
  go_wp2_with (at_make; refine wpList_make_full _ rfl _ _ 39 rfl w1.heap.size 27 i0 _ 2 Try.underlying39 hi hz0 hz1 .i64 .i64 _ _ (N + 1) rfl rfl rfl rfl (by rw [hz2]; omega) (by unfold maxLen; omega) (by simp) ?_; intro w3 hown hg3)
  rw [fmid_made, HSQ.out] at hown
  have hgb : Below (w1.alloc (.cells #[.int .i64 (b - a), .int .i64 b] 27)).heap.size (w1.alloc (.cells #[.int .i64 (b - a), .int .i64 b] 27)) w3 := (Below.refl _ _).grown hg3 (Nat.le_refl _) (by simp)
  have X0 := Lib.hid (box_below x1q hgb)
  have XQ := Lib.hid (box_below xq hgb)
  have HO0 := Lib.hid hown
  have HB0 := Lib.hid (B1.trans ((bq.trans (hgb.mono bq.size)).mono S1))
  clear x1q xq bq hgb hg3 hown hi hz0 hz1 hz2 c10 c11 B1
  try rw [HSQ.out]
  clear HSQ
  go_loopw [8, 38] (fun ways i wr => ∃ (j : Nat) (L : List (Int × Int)), j ≤ N + 1 ∧ i = .int .i64 j ∧ ways = .int .i64 ((chv N j : Nat) : Int) ∧ Hid (lsO a b N j = some L) ∧ Hid (wr.heap[w.heap.size]? = some (.cells #[.int .i64 a, .int .i64 b] 27 (0, 0))) ∧ Hid (wr.heap[w1.heap.size]? = some (.cells #[.int .i64 (b - a), .int .i64 b] 27 (0, 0))) ∧ Hid (wr.ownsRow w1.heap.size 27 2 (.slice (some ⟨w1.heap.size + 1, 0, none⟩) (N + 1) (N + 1)) (N + 1) (fmid L (N + 1 - j))) ∧ Hid (Below w.heap.size w wr)) (fun _ i _ => N + 1 - (intOf i).toNat)
  case atStart => exact ⟨0, [], Nat.zero_le _, rfl, rfl, Lib.hid rfl, X0, XQ, HO0, HB0⟩
  case round =>
    clear X0 XQ HO0 HB0
    obtain ⟨j, L, hj, rfl, rfl, HL, X0, XQ, HO, HB⟩ := hrel
    obtain ⟨w3', rfl⟩ : ∃ w3' : World, w3' = wr := ⟨_, rfl⟩
    have l0 := lt_of_block X0.out
    have lq := lt_of_block XQ.out
    have hLl := lsO_len HL.out
    by_cases hlt : j < N + 1
    · have hjN : j ≤ N := by omega
      have lX0 := lt_of_block X0.out
      have X0c0 := box_cell X0.out 0 _ rfl
      have X0c1 := box_cell X0.out 1 _ rfl
      go_wp2_with fail
      refine (powFrac_any a b j _ HF.out (by omega)).mono ?_
      rintro e w5 ⟨rfl, b5⟩
      clear X0c0 X0c1 lX0
      replace X0 := Lib.hid (box_below X0.out b5)
      replace XQ := Lib.hid (box_below XQ.out b5)
      replace HO := Lib.hid (row_below HO.out b5)
      have HB5 := Lib.hid (HB.out.trans (b5.mono HB.out.size))
      have s5 := b5.size
      clear b5 HB
      cases hA : powO a b j with
      | none =>
        have HR := Lib.hid (lsO_no (n := N) (k := N + 1) (elO_1 hA) (by omega))
        obtain rfl : CV = none := HCV.out.symm.trans HR.out
        simp only [fN, fD, fB]
        have B9 := Lib.hid (HB5.out.alloc HB5.out.size (.cells #[.int .i64 0, .int .i64 0] 27))
        clear HO HB5
        go_wp2
        go_ret2
        exact ⟨none, 0, rfl, FracsR.nil_, B9.out⟩
      | some rA =>
        obtain ⟨p, q⟩ := rA
        have HPA := Lib.hid (powO_frac hA)
        simp only [fN, fD, fB]
        have b6 := below_new w5 (.cells #[.int .i64 p, .int .i64 q] 27)
        have xXA := box_new w5 #[.int .i64 p, .int .i64 q] 27
        replace X0 := Lib.hid (box_below X0.out b6)
        replace XQ := Lib.hid (box_below XQ.out b6)
        have XA := Lib.hid xXA
        replace HO := Lib.hid (row_below HO.out b6)
        have HB6 := Lib.hid (HB5.out.trans (b6.mono HB5.out.size))
        have s6 := b6.size
        clear b6 xXA HB5
        have lXQ := lt_of_block XQ.out
        have XQc0 := box_cell XQ.out 0 _ rfl
        have XQc1 := box_cell XQ.out 1 _ rfl
        have lXA := lt_of_block XA.out
        have XAc0 := box_cell XA.out 0 _ rfl
        have XAc1 := box_cell XA.out 1 _ rfl
        go_wp2_with fail
        generalize w5.alloc (.cells #[.int .i64 p, .int .i64 q] 27) = w6 at *
        have K7 := powFrac_any (b - a) b (N - j) w6 HG.out (by omega)
        rw [show ((N - j : Nat) : Int) = (N : Int) - (j : Int) by omega] at K7
        refine K7.mono ?_
        clear K7
        rintro e w7 ⟨rfl, b7⟩
        clear XQc0 XQc1 lXQ XAc0 XAc1 lXA
        replace X0 := Lib.hid (box_below X0.out b7)
        replace XQ := Lib.hid (box_below XQ.out b7)
        replace XA := Lib.hid (box_below XA.out b7)
        replace HO := Lib.hid (row_below HO.out b7)
        have HB7 := Lib.hid (HB6.out.trans (b7.mono HB6.out.size))
        have s7 := b7.size
        clear b7 HB6
        cases hB : powO (b - a) b (N - j) with
        | none =>
          have HR := Lib.hid (lsO_no (n := N) (k := N + 1) (elO_2 hA hB) (by omega))
          obtain rfl : CV = none := HCV.out.symm.trans HR.out
          simp only [fN, fD, fB]
          have B9 := Lib.hid (HB7.out.alloc HB7.out.size (.cells #[.int .i64 0, .int .i64 0] 27))
          clear HO HB7
          go_wp2
          go_ret2
          exact ⟨none, 0, rfl, FracsR.nil_, B9.out⟩
        | some rB =>
          obtain ⟨p', q'⟩ := rB
          have HPB := Lib.hid (powO_frac hB)
          simp only [fN, fD, fB]
          have b8 := below_new w7 (.cells #[.int .i64 p', .int .i64 q'] 27)
          have xXB := box_new w7 #[.int .i64 p', .int .i64 q'] 27
          replace X0 := Lib.hid (box_below X0.out b8)
          replace XQ := Lib.hid (box_below XQ.out b8)
          replace XA := Lib.hid (box_below XA.out b8)
          have XB := Lib.hid xXB
          replace HO := Lib.hid (row_below HO.out b8)
          have HB8 := Lib.hid (HB7.out.trans (b8.mono HB7.out.size))
          have s8 := b8.size
          clear b8 xXB HB7
          have lXA := lt_of_block XA.out
          have XAc0 := box_cell XA.out 0 _ rfl
          have XAc1 := box_cell XA.out 1 _ rfl
          have lXB := lt_of_block XB.out
          have XBc0 := box_cell XB.out 0 _ rfl
          have XBc1 := box_cell XB.out 1 _ rfl
          go_wp2_with fail
          generalize w7.alloc (.cells #[.int .i64 p', .int .i64 q'] 27) = w8 at *
          refine (mulFrac_any p q p' q' _ HPA.out HPB.out).mono ?_
          rintro e w9 ⟨rfl, b9⟩
          clear XAc0 XAc1 lXA XBc0 XBc1 lXB
          replace X0 := Lib.hid (box_below X0.out b9)
          replace XQ := Lib.hid (box_below XQ.out b9)
          replace XA := Lib.hid (box_below XA.out b9)
          replace XB := Lib.hid (box_below XB.out b9)
          replace HO := Lib.hid (row_below HO.out b9)
          have HB9 := Lib.hid (HB8.out.trans (b9.mono HB8.out.size))
          have s9 := b9.size
          clear b9 HB8
          cases hM : mulO p q p' q' with
          | none =>
            have HR := Lib.hid (lsO_no (n := N) (k := N + 1) (elO_3 hA hB hM) (by omega))
            obtain rfl : CV = none := HCV.out.symm.trans HR.out
            simp only [fN, fD, fB]
            have B9 := Lib.hid (HB9.out.alloc HB9.out.size (.cells #[.int .i64 0, .int .i64 0] 27))
            clear HO HB9
            go_wp2
            go_ret2
            exact ⟨none, 0, rfl, FracsR.nil_, B9.out⟩
          | some rC =>
            obtain ⟨r, s⟩ := rC
            have HPC := Lib.hid (redO_frac (p := r) (q := s) hM)
            have HEL := Lib.hid ((elO_4 hA hB hM).trans (mulO_comm _ _ _ _))
            have HCF := Lib.hid (chv_frac hN hjN)
            have hcb := chv_bd N (by omega) j (by omega)
            simp only [fN, fD, fB]
            have b10 := below_new w9 (.cells #[.int .i64 r, .int .i64 s] 27)
            have xXC := box_new w9 #[.int .i64 r, .int .i64 s] 27
            replace X0 := Lib.hid (box_below X0.out b10)
            replace XQ := Lib.hid (box_below XQ.out b10)
            replace XA := Lib.hid (box_below XA.out b10)
            replace XB := Lib.hid (box_below XB.out b10)
            have XC := Lib.hid xXC
            replace HO := Lib.hid (row_below HO.out b10)
            have HB10 := Lib.hid (HB9.out.trans (b10.mono HB9.out.size))
            have s10 := b10.size
            clear b10 xXC HB9
            have lXC := lt_of_block XC.out
            have XCc0 := box_cell XC.out 0 _ rfl
            have XCc1 := box_cell XC.out 1 _ rfl
            have lHO := HO.out
            obtain ⟨⟨u0, r0⟩, ⟨u1, r1⟩, f0, f1⟩ := row_two lHO (show j < N + 1 by omega)
            clear lHO
            go_wp2_with fail
            clear r0 r1 f0 f1
            generalize w9.alloc (.cells #[.int .i64 r, .int .i64 s] 27) = w10 at *
            refine (mulFrac_any _ _ _ _ _ HCF.out HPC.out).mono ?_
            rintro e w11 ⟨rfl, b11⟩
            clear XCc0 XCc1 lXC
            replace X0 := Lib.hid (box_below X0.out b11)
            replace XQ := Lib.hid (box_below XQ.out b11)
            replace XA := Lib.hid (box_below XA.out b11)
            replace XB := Lib.hid (box_below XB.out b11)
            replace XC := Lib.hid (box_below XC.out b11)
            replace HO := Lib.hid (row_below HO.out b11)
            have HB11 := Lib.hid (HB10.out.trans (b11.mono HB10.out.size))
            have s11 := b11.size
            clear b11 HB10
            have lHO := HO.out
            obtain ⟨⟨u0, r0⟩, ⟨u1, r1⟩, f0, f1⟩ := row_two lHO (show j < N + 1 by omega)
            clear lHO
            cases hE : mulO ((chv N j : Nat) : Int) 1 r s with
            | none =>
              have HR := Lib.hid (lsO_no (n := N) (k := N + 1) (HEL.out.trans hE) (by omega))
              obtain rfl : CV = none := HCV.out.symm.trans HR.out
              simp only [fN, fD, fB]
              have B9 := Lib.hid ((HB11.out.setCell (p := ⟨w1.heap.size + 1, j * 2, none⟩) (by show w.heap.size ≤ w1.heap.size + 1; omega) (.int .i64 0)).setCell (p := ⟨w1.heap.size + 1, j * 2 + 1, none⟩) (by show w.heap.size ≤ w1.heap.size + 1; omega) (.int .i64 0))
              clear HO HB11
              go_wp2
              go_ret2
              exact ⟨none, 0, rfl, FracsR.nil_, B9.out⟩
            | some rD =>
              obtain ⟨y, z⟩ := rD
              have HLN := Lib.hid (lsO_step HL.out (HEL.out.trans hE))
              simp only [fN, fD, fB]
              have B9 := Lib.hid ((HB11.out.setCell (p := ⟨w1.heap.size + 1, j * 2, none⟩) (by show w.heap.size ≤ w1.heap.size + 1; omega) (.int .i64 y)).setCell (p := ⟨w1.heap.size + 1, j * 2 + 1, none⟩) (by show w.heap.size ≤ w1.heap.size + 1; omega) (.int .i64 z))
              have a1 := (World.ownsRow.stored HO.out (j * 2) (.int .i64 y)).1
              have a2 := (World.ownsRow.stored a1 (j * 2 + 1) (.int .i64 z)).1
              have hfm := fmid_set L (y, z) (N + 1 - (j + 1))
              rw [show N + 1 - (j + 1) + 1 = N + 1 - j by omega, hLl] at hfm
              rw [hfm] at a2
              have HO9 := Lib.hid a2
              have hset : ∀ {g : Nat} {O : Obj}, w11.heap[g]? = some O → g ≠ w1.heap.size + 1 → ((w11.setCell ⟨w1.heap.size + 1, j * 2, none⟩ (.int .i64 y)).setCell ⟨w1.heap.size + 1, j * 2 + 1, none⟩ (.int .i64 z)).heap[g]? = some O := fun {g O} h hne => (Below.heap_setCell _ ⟨w1.heap.size + 1, j * 2 + 1, none⟩ _ g hne).trans ((Below.heap_setCell _ ⟨w1.heap.size + 1, j * 2, none⟩ _ g hne).trans h)
              have X09 := Lib.hid (hset X0.out (by omega))
              have XQ9 := Lib.hid (hset XQ.out (by omega))
              have hpr : 0 ≤ ((chv N j : Nat) : Int) * ((N : Int) - (j : Int)) ∧ ((chv N j : Nat) : Int) * ((N : Int) - (j : Int)) ≤ 800 := by
                have e9 : ((chv N j : Nat) : Int) * ((N : Int) - (j : Int)) = ((chv N j * (N - j) : Nat) : Int) := by
                  rw [Int.natCast_mul]
                  congr 1
                  omega
                have e8 : chv N j * (N - j) ≤ 100 * 8 := Nat.mul_le_mul hcb.2 (by omega)
                rw [e9]
                omega
              have hdv : ((chv N j : Nat) : Int) * ((N : Int) - (j : Int)) / ((j : Int) + 1) = ((chv N (j + 1) : Nat) : Int) := by
                have e9 : ((chv N j : Nat) : Int) * ((N : Int) - (j : Int)) = ((chv N j * (N - j) : Nat) : Int) := by
                  rw [Int.natCast_mul]
                  congr 1
                  omega
                rw [e9]
                exact (Int.natCast_ediv (chv N j * (N - j)) (j + 1)).symm
              have HDV := Lib.hid hdv
              clear hdv a1 a2 hfm hset hE HEL HO HB11 X0 XQ XA XB XC
              obtain ⟨cy, hcy⟩ : ∃ x, chv N (j + 1) = x := ⟨_, rfl⟩
              have HCY := Lib.hid hcy
              rw [hcy] at HDV
              clear hcy
              generalize chv N j = cx at *
              go_wp2
              go_roundw
              case rel => exact ⟨j + 1, L ++ [(y, z)], by omega, by go_num, by rw [HDV.out, HCY.out], HLN, X09, XQ9, HO9, B9⟩
              case measure => simp [intOf]; omega
    · obtain rfl : j = N + 1 := by omega
      have HRd := HO.out
      rw [Nat.sub_self] at HRd
      have HRd2 : w3'.ownsRow w1.heap.size 27 2 (.slice (some ⟨w1.heap.size + 1, 0, none⟩) (N + 1) (N + 1)) (N + 1) (fcells L) := by have h9 := HRd; unfold fmid at h9; simpa using h9
      have HFR := Lib.hid (fracs_read HRd2)
      have HLl := Lib.hid hLl
      obtain rfl : CV = some L := HCV.out.symm.trans HL.out
      clear HRd HRd2 HO
      go_wp2
      go_ret2
      exact ⟨some ⟨w1.heap.size + 1, 0, none⟩, N + 1, congrArg (fun q => Ending.returned (.tuple #[.slice (some ⟨w1.heap.size + 1, 0, none⟩) q (N + 1), .bool true])) HLl.out.symm, by show FracsR _ _ L.length L; rw [HLl.out]; exact HFR.out, HB.out⟩
end Go.Proofs.Ytgfihfmlofgopaa
