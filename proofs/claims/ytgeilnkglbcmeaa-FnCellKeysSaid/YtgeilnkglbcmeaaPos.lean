/- The counts that can have become a perturbed count, of the program and of the reference. -/
import Derived.Test.YtgeilnkglbcmeaaTabL
import Derived.Test.YtgeilnkglbcmeaaMems
import Derived.Deep.RegionHeld3
namespace Go.Proofs.Ytgeilnkglbcmeaa
open Go.RowKit

/-- Some element of the row for a count makes it s. -/
def pcB (n : Nat) (S : Nat → List Int) (s : Int) (c : Nat) : Bool := hasB (S (min c (n - 1))) (s - c)
def pcK (n : Nat) (S : Nat → List Int) (s : Int) (lo k : Nat) : List Int := ((List.range k).filter fun t => pcB n S s (lo + t)).map fun t => ((lo + t : Nat) : Int)
def pcLo (s : Int) : Nat := (s - 5).toNat
def pcN (s : Int) : Nat := (min 1000000 (s + 5)).toNat + 1 - pcLo s
def pcB0 (n : Nat) (S : Nat → List Int) (s : Int) : Bool := nzTab n S && inR s 0 1000000
def pcL (n : Nat) (S : Nat → List Int) (s : Int) : List Int := if pcB0 n S s = true then pcK n S s (pcLo s) (pcN s) else []
section
variable {n : Nat} {S : Nat → List Int} {s : Int} {c lo k : Nat}
theorem pcK_yes (h : pcB n S s (lo + k) = true) : pcK n S s lo (k + 1) = pcK n S s lo k ++ [((lo + k : Nat) : Int)] := by simp [pcK, List.range_succ, h]
theorem pcK_no (h : pcB n S s (lo + k) = false) : pcK n S s lo (k + 1) = pcK n S s lo k := by simp [pcK, List.range_succ, h]
theorem pcK_len (n : Nat) (S : Nat → List Int) (s : Int) (lo k : Nat) : (pcK n S s lo k).length ≤ k := by
  have := List.length_filter_le (fun t => pcB n S s (lo + t)) (List.range k)
  simpa [pcK] using this
theorem min_swap {q lo N : Nat} (h : ((lo + N : Nat) : Int) = min 1000000 ((q : Int) + 5) + 1) : min ((q : Int) + 5) 1000000 + 1 = (lo : Int) + N := by
  rw [Int.min_comm, ← h]
  exact Int.natCast_add lo N
theorem nz_row_bd {cc : Nat} (h : nzTab n S = true) : ∀ j, j < 16 → -5 ≤ (S (min cc (n - 1)))[j]?.getD 0 ∧ (S (min cc (n - 1)))[j]?.getD 0 ≤ 5 := fun j hj => by
  obtain ⟨h1, h2⟩ := nzTab_of h
  have h3 := nzV_of ((h2 (min cc (n - 1)) (by omega)).2 j hj)
  exact ⟨h3.1, h3.2.1⟩
end

set_option maxRecDepth 100000 in
set_option maxHeartbeats 4000000 in
theorem implPC_no1 (A : Option Addr) (n c : Nat) (s : Int) (S : Nat → List Int) (w : World) (hs : IntsS w A n S) (hn : n ≤ 1099511627776) (hl : ∀ j, j < n → (S j).length ≤ 1099511627776) (h1 : nzTab n S = false) :
    Calls Try.prog 29 #[.agg #[.slice A n c], .int .i64 s] w (RetInts w (pcL n S s) (pcB0 n S s)) := by
  have x0 := box_new w #[.slice A n c] 33
  have b0 := below_new w (.cells #[.slice A n c] 33)
  have xc := box_cell x0 0 _ rfl
  replace hs := hs.below b0
  have HS := Lib.hid hs
  have HL := Lib.hid hl
  clear hs hl
  have H1 := Lib.hid h1
  have RB : Hid (pcB0 n S s = false) := Lib.hid (by unfold pcB0; simp [h1])
  have RR : Hid (pcL n S s = []) := Lib.hid (by unfold pcL; rw [RB.out]; rfl)
  rw [RB.out, RR.out]
  clear h1
  go_enter Try.func29, Try.ntmps29
  go_wp2_with fail
  generalize w.alloc (.cells #[.slice A n c] 33) = w1 at *
  refine (isNoise_any _ n _ S _ HS.out hn HL.out).mono ?_
  rintro e w2 ⟨rfl, b1⟩
  rw [H1.out]
  have B2 := Lib.hid (b0.trans (b1.mono b0.size))
  clear xc x0 b1 b0 HS
  go_wp2
  go_ret2
  exact ⟨none, 0, rfl, OwnI.nil_, B2.out⟩

set_option maxRecDepth 100000 in
set_option maxHeartbeats 4000000 in
theorem implPC_no2 (A : Option Addr) (n c : Nat) (s : Int) (S : Nat → List Int) (w : World) (hs : IntsS w A n S) (hn : n ≤ 1099511627776) (hl : ∀ j, j < n → (S j).length ≤ 1099511627776) (h1 : nzTab n S = true) (h2 : inR s 0 1000000 = false) :
    Calls Try.prog 29 #[.agg #[.slice A n c], .int .i64 s] w (RetInts w (pcL n S s) (pcB0 n S s)) := by
  have x0 := box_new w #[.slice A n c] 33
  have b0 := below_new w (.cells #[.slice A n c] 33)
  have xc := box_cell x0 0 _ rfl
  replace hs := hs.below b0
  have HS := Lib.hid hs
  have HL := Lib.hid hl
  clear hs hl
  have H1 := Lib.hid h1
  have H2 := Lib.hid h2
  have RB : Hid (pcB0 n S s = false) := Lib.hid (by unfold pcB0; simp [h2])
  have RR : Hid (pcL n S s = []) := Lib.hid (by unfold pcL; rw [RB.out]; rfl)
  rw [RB.out, RR.out]
  clear h1
  have hr : s < 0 ∨ (¬ s < 0 ∧ 1000000 < s) := by simp [inR] at h2; omega
  clear h2
  rcases hr with hr | ⟨hr, hr2⟩
  · have d1 : decide (s < 0) = true := by simpa using hr
    go_enter Try.func29, Try.ntmps29
    go_wp2_with fail
    generalize w.alloc (.cells #[.slice A n c] 33) = w1 at *
    refine (isNoise_any _ n _ S _ HS.out hn HL.out).mono ?_
    rintro e w2 ⟨rfl, b1⟩
    rw [H1.out]
    have B2 := Lib.hid (b0.trans (b1.mono b0.size))
    clear xc x0 b1 b0 HS
    go_wp2
    go_ret2
    exact ⟨none, 0, rfl, OwnI.nil_, B2.out⟩
  · have d1 : decide (s < 0) = false := by simpa using hr
    have d2 : decide (1000000 < s) = true := by simpa using hr2
    go_enter Try.func29, Try.ntmps29
    go_wp2_with fail
    generalize w.alloc (.cells #[.slice A n c] 33) = w1 at *
    refine (isNoise_any _ n _ S _ HS.out hn HL.out).mono ?_
    rintro e w2 ⟨rfl, b1⟩
    rw [H1.out]
    have B2 := Lib.hid (b0.trans (b1.mono b0.size))
    clear xc x0 b1 b0 HS
    go_wp2
    go_ret2
    exact ⟨none, 0, rfl, OwnI.nil_, B2.out⟩

set_option maxRecDepth 100000 in
set_option maxHeartbeats 4000000 in
theorem specPC_no1 (A : Option Addr) (n c : Nat) (s : Int) (S : Nat → List Int) (w : World) (hs : IntsS w A n S) (hn : n ≤ 1099511627776) (hl : ∀ j, j < n → (S j).length ≤ 1099511627776) (h1 : nzTab n S = false) :
    Calls Try.prog 30 #[.agg #[.slice A n c], .int .i64 s] w (RetInts w (pcL n S s) (pcB0 n S s)) := by
  have x0 := box_new w #[.slice A n c] 33
  have b0 := below_new w (.cells #[.slice A n c] 33)
  have xc := box_cell x0 0 _ rfl
  replace hs := hs.below b0
  have HS := Lib.hid hs
  have HL := Lib.hid hl
  clear hs hl
  have H1 := Lib.hid h1
  have RB : Hid (pcB0 n S s = false) := Lib.hid (by unfold pcB0; simp [h1])
  have RR : Hid (pcL n S s = []) := Lib.hid (by unfold pcL; rw [RB.out]; rfl)
  rw [RB.out, RR.out]
  clear h1
  go_enter Try.func30, Try.ntmps30
  go_wp2_with fail
  generalize w.alloc (.cells #[.slice A n c] 33) = w1 at *
  refine (yGood_any _ n _ S _ HS.out hn HL.out).mono ?_
  rintro e w2 ⟨rfl, b1⟩
  rw [H1.out]
  have B2 := Lib.hid (b0.trans (b1.mono b0.size))
  clear xc x0 b1 b0 HS
  go_wp2
  go_ret2
  exact ⟨none, 0, rfl, OwnI.nil_, B2.out⟩

set_option maxRecDepth 100000 in
set_option maxHeartbeats 4000000 in
theorem specPC_no2 (A : Option Addr) (n c : Nat) (s : Int) (S : Nat → List Int) (w : World) (hs : IntsS w A n S) (hn : n ≤ 1099511627776) (hl : ∀ j, j < n → (S j).length ≤ 1099511627776) (h1 : nzTab n S = true) (h2 : inR s 0 1000000 = false) :
    Calls Try.prog 30 #[.agg #[.slice A n c], .int .i64 s] w (RetInts w (pcL n S s) (pcB0 n S s)) := by
  have x0 := box_new w #[.slice A n c] 33
  have b0 := below_new w (.cells #[.slice A n c] 33)
  have xc := box_cell x0 0 _ rfl
  replace hs := hs.below b0
  have HS := Lib.hid hs
  have HL := Lib.hid hl
  clear hs hl
  have H1 := Lib.hid h1
  have H2 := Lib.hid h2
  have RB : Hid (pcB0 n S s = false) := Lib.hid (by unfold pcB0; simp [h2])
  have RR : Hid (pcL n S s = []) := Lib.hid (by unfold pcL; rw [RB.out]; rfl)
  rw [RB.out, RR.out]
  clear h1
  clear h2
  go_enter Try.func30, Try.ntmps30
  go_wp2_with fail
  generalize w.alloc (.cells #[.slice A n c] 33) = w1 at *
  refine (yGood_any _ n _ S _ HS.out hn HL.out).mono ?_
  rintro e w2 ⟨rfl, b1⟩
  rw [H1.out]
  have B2 := Lib.hid (b0.trans (b1.mono b0.size))
  clear xc x0 b1 b0 HS
  go_wp2_with fail
  refine (l1In_any _ _ _ _).mono ?_
  rintro e w3 ⟨rfl, rfl⟩
  rw [H2.out]
  go_wp2
  go_ret2
  exact ⟨none, 0, rfl, OwnI.nil_, B2.out⟩

set_option maxRecDepth 100000 in
set_option maxHeartbeats 4000000 in
theorem implPC_yes (A : Option Addr) (n c : Nat) (s : Int) (S : Nat → List Int) (w : World) (hs : IntsS w A n S) (hn : n ≤ 1099511627776) (hl : ∀ j, j < n → (S j).length ≤ 1099511627776) (q : Nat) (hq : s = q) (hq2 : q ≤ 1000000) (h1 : nzTab n S = true) :
    Calls Try.prog 29 #[.agg #[.slice A n c], .int .i64 s] w (RetInts w (pcL n S s) (pcB0 n S s)) := by
  have x0 := box_new w #[.slice A n c] 33
  have b0 := below_new w (.cells #[.slice A n c] 33)
  have xc := box_cell x0 0 _ rfl
  replace hs := hs.below b0
  have HS := Lib.hid hs
  have HL := Lib.hid hl
  clear hs hl
  obtain ⟨hn1, hn2⟩ := nzTab_of h1
  have H1 := Lib.hid h1
  have H16 := Lib.hid (fun j hj => (hn2 j hj).1)
  have RB : Hid (pcB0 n S s = true) := Lib.hid (by unfold pcB0; rw [h1, hq]; simp [inR]; omega)
  have RR : Hid (pcL n S s = pcK n S s (pcLo s) (pcN s)) := Lib.hid (by unfold pcL; rw [if_pos RB.out])
  rw [RB.out, RR.out]
  subst hq
  have hN1 : (pcLo q : Int) = max 0 ((q : Int) - 5) := by unfold pcLo; omega
  have hN2 : ((pcLo q + pcN q : Nat) : Int) = min 1000000 ((q : Int) + 5) + 1 := by unfold pcN pcLo; omega
  obtain ⟨lo, hlo⟩ : ∃ lo, pcLo q = lo := ⟨_, rfl⟩
  obtain ⟨N, hNN⟩ : ∃ N, pcN q = N := ⟨_, rfl⟩
  rw [hlo, hNN] at hN2 RR ⊢
  rw [hlo] at hN1
  have hlo9 : (lo : Int) ≤ q := by omega
  have hNs : N ≤ 11 := by omega
  have hn20 := hn1.2
  have HN2 := Lib.hid hN2
  clear h1 hlo hNN hn2 hN2
  go_enter Try.func29, Try.ntmps29
  go_wp2_with fail
  generalize w.alloc (.cells #[.slice A n c] 33) = w1 at *
  refine (isNoise_any _ n _ S _ HS.out hn HL.out).mono ?_
  rintro e w2 ⟨rfl, b1⟩
  rw [H1.out]
  have b2 := b0.trans (b1.mono b0.size)
  replace x0 := box_below x0 b1
  have S2 := Lib.hid (HS.out.below b1)
  clear xc b1 b0 HS
  have d1 : decide ((q : Int) < 0) = false := by simp
  have d2 : decide ((1000000 : Int) < (q : Int)) = false := by simp; omega
  have hst : Hid (∀ P : Prop, ((¬ (0 : Int) ≤ (q : Int) - 5 ∧ (q : Int) - 5 < 0 ∧ (0 : Int) = lo) → P) → (((0 : Int) ≤ (q : Int) - 5 ∧ (q : Int) - 5 = lo) → P) → P) := Lib.hid fun P h1 h2 => by
    by_cases h : (0 : Int) ≤ (q : Int) - 5
    · exact h2 ⟨h, by omega⟩
    · exact h1 ⟨h, by omega, by omega⟩
  apply hst.out
  all_goals (first | rintro ⟨h5, h5', hl0⟩ | rintro ⟨h5, hl0⟩)
  all_goals have HL0 := Lib.hid hl0
  all_goals clear hl0 hst hN1
  all_goals go_wp2_with fail
  all_goals (try clear h5')
  all_goals clear h5
  all_goals (
    go_loopw [6, 7] (fun a i wr => ∃ (k cc : Nat) (E : Option Addr) (ce : Nat), k ≤ N ∧ i = .int .i64 cc ∧ Hid (cc = lo + k) ∧ a = .slice E (pcK n S q lo k).length ce ∧ OwnI wr w2.heap.size wr.heap.size E (pcK n S q lo k).length ce (pcK n S q lo k) ∧ Below w2.heap.size w2 wr) (fun _ i _ => lo + N - (intOf i).toNat)
    case atStart => exact ⟨0, lo, none, 0, Nat.zero_le _, val_int (by first | exact HL0.out | (have := HL0.out; omega)), Lib.hid rfl, rfl, OwnI.nil_, Below.refl _ _⟩
    case round =>
      obtain ⟨k, cc, E, ce, hk, rfl, HC, rfl, hO, hbw⟩ := hrel
      obtain ⟨wo, rfl⟩ : ∃ wo : World, wo = wr := ⟨_, rfl⟩
      have hcc1 : (cc : Int) ≤ (lo : Int) + k := by have := HC.out; omega
      have hcc2 : (lo : Int) + k ≤ (cc : Int) := by have := HC.out; omega
      have hkl := pcK_len n S q lo k
      have HPN := Lib.hid (fun h => by have := pcK_no (n := n) (S := S) (s := (q : Int)) (lo := lo) (k := k) h; exact this)
      have HPY := Lib.hid (fun h => by have := pcK_yes (n := n) (S := S) (s := (q : Int)) (lo := lo) (k := k) h; exact this)
      have HBW := Lib.hid hbw
      have hzw := hbw.size
      rw [← HC.out] at HPN HPY
      by_cases hlt : k < N
      · have hcm : cc ≤ 1000000 := by have := HN2.out; omega
        have HS4 := Lib.hid (S2.out.below hbw)
        have x4 := box_below x0 hbw
        have xc4 := box_cell x4 0 _ rfl
        have HO := Lib.hid hO
        clear hO hbw
        rcases Int.lt_or_le ((q : Int) + 5) 1000000 with h6 | h6
        all_goals (try have h6' : ¬ (1000000 : Int) ≤ (q : Int) + 5 := by omega)
        all_goals (have htl : (cc : Int) ≤ (q : Int) + 5 := by have := HN2.out; omega)
        all_goals (have htl2 : (cc : Int) ≤ 1000000 := by omega)
        all_goals (
          have hx9 : pcB n S q cc = hasB (S (min cc (n - 1))) ((q : Int) - cc) := rfl
          have HX := Lib.hid hx9
          have hrow : min cc (n - 1) < n := by omega
          have HLR := Lib.hid (H16.out _ hrow)
          have HVB := Lib.hid (nz_row_bd (cc := cc) H1.out)
          clear hx9
          go_wp2_with fail
          (try clear h6')
          clear h6 htl htl2
          refine (rowFor_any _ n c cc S _ HS4.out hn1.1 hn20 H16.out hcm).mono ?_
          rintro e w5 ⟨V, cv, rfl, hv, b5⟩
          have HV := Lib.hid hv
          have O5 := Lib.hid ((HO.out.below b5).fit (Nat.le_refl _))
          have B5 := Lib.hid (HBW.out.trans (b5.mono HBW.out.size))
          have x5 := Lib.hid (box_below x4 b5)
          have z5 := b5.size
          clear hv b5 HO x4 xc4 HS4
          obtain ⟨row, hre⟩ : ∃ row, S (min cc (n - 1)) = row := ⟨_, rfl⟩
          have HVB2 : Hid (∀ j, j < 16 → -5 ≤ row[j]?.getD 0 ∧ row[j]?.getD 0 ≤ 5) := Lib.hid fun j hj => by
            have := HVB.out j hj
            rw [hre] at this
            exact this
          rw [hre] at HV HX HLR
          clear hre HVB hrow
          obtain ⟨L0, hL0⟩ : ∃ L0, (pcK n S q lo k).length = L0 := ⟨_, rfl⟩
          rw [hL0] at O5 hkl
          have HL00 := Lib.hid hL0
          clear hL0
          go_wp2_with fail
          rw [HL00.out]
          go_loopw [6, 35] (fun a i wq => ∃ j : Nat, j ≤ 16 ∧ i = .int .i64 j ∧ a = .slice E L0 ce ∧ wq = w5 ∧ Hid (∀ t, t < j → row[t]?.getD 0 ≠ (q : Int) - cc)) (fun _ i _ => 16 - (intOf i).toNat)
          case atStart => exact ⟨0, Nat.zero_le _, rfl, rfl, rfl, Lib.hid fun t ht => absurd ht (by omega)⟩
          case round =>
            obtain ⟨j, hj, rfl, rfl, rfl, HA⟩ := hrel
            by_cases hj16 : j < 16
            · obtain ⟨av, rfl, hcv⟩ := HV.out.at_ hj16
              have hvb := HVB2.out j hj16
              have HIT := Lib.hid (fun (h : row[j]?.getD 0 = (q : Int) - cc) => HX.out.trans (hasB_yes HLR.out hj16 h))
              have MISS := Lib.hid (fun (h : row[j]?.getD 0 ≠ (q : Int) - cc) => (show ∀ t, t < j + 1 → row[t]?.getD 0 ≠ (q : Int) - cc from all_succ HA.out h))
              obtain ⟨v, hve⟩ : ∃ v, row[j]?.getD 0 = v := ⟨_, rfl⟩
              rw [hve] at hcv hvb HIT MISS
              clear hve
              by_cases hhit : (cc : Int) + v = q
              · have hP := HIT.out (by omega)
                have HK := Lib.hid (HPY.out hP)
                have hbe : ((cc : Int) + v == (q : Int)) = true := by rw [beq_iff_eq]; exact hhit
                have HHIT := Lib.hid hhit
                clear hhit hP HIT MISS
                have o5 := O5.out.own
                have z6 := B5.out.size
                have hO5 := O5.out
                go_wp2_with (at_builtin; refine wp_app1 rfl _ _ rfl w2.heap.size E L0 ce _ rfl o5 _ rfl rfl (by omega) z6 ?_; intro A7 c7 w7 own7 grow7 _)
                have HO7 := Lib.hid (OwnI.of_own own7 (by omega))
                have HB7 := Lib.hid (below_write B5.out grow7 z6 (fun j hj => (o5.row_ge j hj).1))
                clear own7 grow7
                go_roundw
                case rel => exact ⟨k + 1, cc + 1, A7, c7, by omega, by go_num, Lib.hid (by have := HC.out; omega), by rw [HK.out, List.length_append, HL00.out]; rfl, by rw [HK.out, List.length_append, HL00.out]; exact HO7.out, HB7.out⟩
                case measure => simp [intOf]; omega
              · have hbe : ((cc : Int) + v == (q : Int)) = false := by rw [beq_eq_false_iff_ne]; exact hhit
                have HM := Lib.hid (MISS.out (by omega))
                clear hhit HIT MISS
                go_wp2
                go_roundw
                case rel => exact ⟨j + 1, by omega, by go_num, rfl, trivial, HM⟩
                case measure => simp [intOf]; omega
            · obtain rfl : j = 16 := by omega
              have HP := Lib.hid (HPN.out (HX.out.trans (hasB_no HLR.out HA.out)))
              clear HA
              go_wp2
              go_roundw
              case rel => exact ⟨k + 1, cc + 1, E, ce, by omega, by go_num, Lib.hid (by have := HC.out; omega), by rw [HP.out, HL00.out], by rw [HP.out, HL00.out]; exact O5.out, B5.out⟩
              case measure => simp [intOf]; omega)
      · obtain rfl : N = k := by omega
        have HR := Lib.hid (show OwnI wo w.heap.size wo.heap.size E (pcK n S q lo N).length ce (pcK n S q lo N) from hO.fit b2.size)
        have HB := Lib.hid (b2.trans (HBW.out.mono b2.size))
        clear hO hbw HPN HPY
        rcases Int.lt_or_le ((q : Int) + 5) 1000000 with h6 | h6
        · have h6' : ¬ (1000000 : Int) ≤ (q : Int) + 5 := by omega
          have htl : ¬ (cc : Int) ≤ (q : Int) + 5 := by have := HN2.out; omega
          go_wp2
          go_ret2
          exact ⟨E, ce, rfl, HR.out, HB.out⟩
        · have htl : ¬ (cc : Int) ≤ 1000000 := by have := HN2.out; omega
          go_wp2
          go_ret2
          exact ⟨E, ce, rfl, HR.out, HB.out⟩)

set_option maxRecDepth 100000 in
set_option maxHeartbeats 4000000 in
theorem specPC_yes (A : Option Addr) (n c : Nat) (s : Int) (S : Nat → List Int) (w : World) (hs : IntsS w A n S) (hn : n ≤ 1099511627776) (hl : ∀ j, j < n → (S j).length ≤ 1099511627776) (q : Nat) (hq : s = q) (hq2 : q ≤ 1000000) (h1 : nzTab n S = true) :
    Calls Try.prog 30 #[.agg #[.slice A n c], .int .i64 s] w (RetInts w (pcL n S s) (pcB0 n S s)) := by
  have x0 := box_new w #[.slice A n c] 33
  have b0 := below_new w (.cells #[.slice A n c] 33)
  have xc := box_cell x0 0 _ rfl
  replace hs := hs.below b0
  have HS := Lib.hid hs
  have HL := Lib.hid hl
  clear hs hl
  obtain ⟨hn1, hn2⟩ := nzTab_of h1
  have H1 := Lib.hid h1
  have H16 := Lib.hid (fun j hj => (hn2 j hj).1)
  have RB : Hid (pcB0 n S s = true) := Lib.hid (by unfold pcB0; rw [h1, hq]; simp [inR]; omega)
  have RR : Hid (pcL n S s = pcK n S s (pcLo s) (pcN s)) := Lib.hid (by unfold pcL; rw [if_pos RB.out])
  rw [RB.out, RR.out]
  subst hq
  have hN1 : (pcLo q : Int) = max 0 ((q : Int) - 5) := by unfold pcLo; omega
  have hN2 : ((pcLo q + pcN q : Nat) : Int) = min 1000000 ((q : Int) + 5) + 1 := by unfold pcN pcLo; omega
  obtain ⟨lo, hlo⟩ : ∃ lo, pcLo q = lo := ⟨_, rfl⟩
  obtain ⟨N, hNN⟩ : ∃ N, pcN q = N := ⟨_, rfl⟩
  rw [hlo, hNN] at hN2 RR ⊢
  rw [hlo] at hN1
  have hlo9 : (lo : Int) ≤ q := by omega
  have hNs : N ≤ 11 := by omega
  have hn20 := hn1.2
  have HN2 := Lib.hid hN2
  clear h1 hlo hNN hn2 hN2
  go_enter Try.func30, Try.ntmps30
  go_wp2_with fail
  generalize w.alloc (.cells #[.slice A n c] 33) = w1 at *
  refine (yGood_any _ n _ S _ HS.out hn HL.out).mono ?_
  rintro e w2 ⟨rfl, b1⟩
  rw [H1.out]
  have b2 := b0.trans (b1.mono b0.size)
  replace x0 := box_below x0 b1
  have S2 := Lib.hid (HS.out.below b1)
  clear xc b1 b0 HS
  have hI : inR (q : Int) 0 1000000 = true := by simp [inR]; omega
  have HI := Lib.hid hI
  have HMX := Lib.hid (show maxI ((q : Int) - 5) 0 = (lo : Int) by unfold maxI; split <;> omega)
  clear hI hN1
  go_wp2_with fail
  refine (l1In_any _ _ _ _).mono ?_
  rintro e w3 ⟨rfl, rfl⟩
  rw [HI.out]
  go_wp2_with fail
  refine (l1Most_any _ _ _).mono ?_
  rintro e w3 ⟨rfl, rfl⟩
  rw [HMX.out]
  go_wp2_with fail
  go_loopw [6, 7] (fun a i wr => ∃ (k cc : Nat) (E : Option Addr) (ce : Nat), k ≤ N ∧ i = .int .i64 cc ∧ Hid (cc = lo + k) ∧ a = .slice E (pcK n S q lo k).length ce ∧ OwnI wr w2.heap.size wr.heap.size E (pcK n S q lo k).length ce (pcK n S q lo k) ∧ Below w2.heap.size w2 wr) (fun _ i _ => lo + N - (intOf i).toNat)
  case atStart => exact ⟨0, lo, none, 0, Nat.zero_le _, rfl, Lib.hid rfl, rfl, OwnI.nil_, Below.refl _ _⟩
  case round =>
    obtain ⟨k, cc, E, ce, hk, rfl, HC, rfl, hO, hbw⟩ := hrel
    obtain ⟨wo, rfl⟩ : ∃ wo : World, wo = wr := ⟨_, rfl⟩
    have hcc1 : (cc : Int) ≤ (lo : Int) + k := by have := HC.out; omega
    have hcc2 : (lo : Int) + k ≤ (cc : Int) := by have := HC.out; omega
    have hkl := pcK_len n S q lo k
    have HPN := Lib.hid (fun h => by have := pcK_no (n := n) (S := S) (s := (q : Int)) (lo := lo) (k := k) h; exact this)
    have HPY := Lib.hid (fun h => by have := pcK_yes (n := n) (S := S) (s := (q : Int)) (lo := lo) (k := k) h; exact this)
    have HBW := Lib.hid hbw
    have hzw := hbw.size
    rw [← HC.out] at HPN HPY
    obtain ⟨z, hz1⟩ : ∃ z : Int, min ((q : Int) + 5) 1000000 = z := ⟨_, rfl⟩
    have hz2 := min_swap HN2.out
    rw [hz1] at hz2
    have HZ := Lib.hid hz1
    have hz3 : z + 1 ≤ (lo : Int) + N := by omega
    have hz4 : (lo : Int) + N ≤ z + 1 := by omega
    clear hz1 hz2
    by_cases hlt : k < N
    · have hcm : cc ≤ 1000000 := by have := HN2.out; omega
      have HS4 := Lib.hid (S2.out.below hbw)
      have x4 := box_below x0 hbw
      have xc4 := box_cell x4 0 _ rfl
      have HO := Lib.hid hO
      clear hO hbw
      go_wp2_with fail
      refine (l1Least_any _ _ _).mono ?_
      rintro e w4 ⟨rfl, rfl⟩
      rw [HZ.out]
      have hd : decide ((cc : Int) ≤ z) = true := decide_eq_true (by omega)
      have HX := Lib.hid (show pcB n S q cc = hasB (S (min cc (n - 1))) ((q : Int) - cc) from rfl)
      have hrow : min cc (n - 1) < n := by omega
      have HLR := Lib.hid (H16.out _ hrow)
      have hqc : (q : Int) - cc ≤ 1000000 := by omega
      have hqc2 : -1000000 ≤ (q : Int) - cc := by omega
      go_wp2_with fail
      refine (yRow_any _ n c cc S _ HS4.out hn1.1 hn20 H16.out hcm).mono ?_
      rintro e w5 ⟨V, cv, rfl, hv, b5⟩
      have HV := Lib.hid hv
      have O5 := Lib.hid ((HO.out.below b5).fit (Nat.le_refl _))
      have B5 := Lib.hid (HBW.out.trans (b5.mono HBW.out.size))
      have z5 := b5.size
      clear hv b5 HO x4 xc4 HS4 hd
      obtain ⟨L0, hL0⟩ : ∃ L0, (pcK n S q lo k).length = L0 := ⟨_, rfl⟩
      rw [hL0] at O5 hkl
      have HL00 := Lib.hid hL0
      clear hL0
      go_wp2_with fail
      refine (l1Has_any _ 16 _ _ (S (min cc (n - 1))) _ ⟨HV.out, by omega⟩).mono ?_
      rintro e w6 ⟨rfl, rfl⟩
      rw [← HX.out]
      cases hP : pcB n S q cc
      · have HP := Lib.hid (HPN.out hP)
        clear hP HX
        go_wp2
        go_roundw
        case rel => exact ⟨k + 1, cc + 1, E, ce, by omega, by go_num, Lib.hid (by have := HC.out; omega), by rw [HP.out, HL00.out], by rw [HP.out, HL00.out]; exact O5.out, B5.out⟩
        case measure => simp [intOf]; omega
      · have HK := Lib.hid (HPY.out hP)
        clear hP HX
        have o5 := O5.out.own
        have z6 := B5.out.size
        rw [HL00.out]
        go_wp2_with (at_builtin; refine wp_app1 rfl _ _ rfl w2.heap.size E L0 ce _ rfl o5 _ rfl rfl (by omega) z6 ?_; intro A7 c7 w7 own7 grow7 _)
        have HO7 := Lib.hid (OwnI.of_own own7 (by omega))
        have HB7 := Lib.hid (below_write B5.out grow7 z6 (fun j hj => (o5.row_ge j hj).1))
        clear own7 grow7
        go_roundw
        case rel => exact ⟨k + 1, cc + 1, A7, c7, by omega, by go_num, Lib.hid (by have := HC.out; omega), by rw [HK.out, List.length_append, HL00.out]; rfl, by rw [HK.out, List.length_append, HL00.out]; exact HO7.out, HB7.out⟩
        case measure => simp [intOf]; omega
    · obtain rfl : N = k := by omega
      have HR := Lib.hid (show OwnI wo w.heap.size wo.heap.size E (pcK n S q lo N).length ce (pcK n S q lo N) from hO.fit b2.size)
      have HB := Lib.hid (b2.trans (HBW.out.mono b2.size))
      clear hO hbw HPN HPY
      go_wp2_with fail
      refine (l1Least_any _ _ _).mono ?_
      rintro e w4 ⟨rfl, rfl⟩
      rw [HZ.out]
      have hd : decide ((cc : Int) ≤ z) = false := decide_eq_false (by omega)
      go_wp2
      go_ret2
      exact ⟨E, ce, rfl, HR.out, HB.out⟩

theorem implPossibleCounts_law (A : Option Addr) (n c : Nat) (s : Int) (S : Nat → List Int) (w : World) (hs : IntsS w A n S) (hn : n ≤ 1099511627776) (hl : ∀ j, j < n → (S j).length ≤ 1099511627776) :
    Calls Try.prog 29 #[.agg #[.slice A n c], .int .i64 s] w (RetInts w (pcL n S s) (pcB0 n S s)) := by
  cases h1 : nzTab n S
  · exact implPC_no1 A n c s S w hs hn hl h1
  cases h2 : inR s 0 1000000
  · exact implPC_no2 A n c s S w hs hn hl h1 h2
  have h3 : 0 ≤ s ∧ s ≤ 1000000 := by simp [inR] at h2; omega
  exact implPC_yes A n c s S w hs hn hl s.toNat (by omega) (by omega) h1

theorem specPossibleCounts_law (A : Option Addr) (n c : Nat) (s : Int) (S : Nat → List Int) (w : World) (hs : IntsS w A n S) (hn : n ≤ 1099511627776) (hl : ∀ j, j < n → (S j).length ≤ 1099511627776) :
    Calls Try.prog 30 #[.agg #[.slice A n c], .int .i64 s] w (RetInts w (pcL n S s) (pcB0 n S s)) := by
  cases h1 : nzTab n S
  · exact specPC_no1 A n c s S w hs hn hl h1
  cases h2 : inR s 0 1000000
  · exact specPC_no2 A n c s S w hs hn hl h1 h2
  have h3 : 0 ≤ s ∧ s ≤ 1000000 := by simp [inR] at h2; omega
  exact specPC_yes A n c s S w hs hn hl s.toNat (by omega) (by omega) h1

end Go.Proofs.Ytgeilnkglbcmeaa
