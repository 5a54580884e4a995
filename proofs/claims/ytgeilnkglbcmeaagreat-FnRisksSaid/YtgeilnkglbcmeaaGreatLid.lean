/- The least identifying variables, of the program and of the reference. -/
import Derived.Test.YtgeilnkglbcmeaaGreatZh
namespace Go.Proofs.YtgeilnkglbcmeaaGreat
open Go.RowKit

theorem hasB_link {p : Nat → Bool} {m k : Nat} (hk : k < m) : hasB (linkK p m) (k : Int) = p k := by
  cases h : p k
  · refine hasB_no rfl fun i hi => ?_
    obtain ⟨t, ht, e, eg⟩ := linkK_at hi
    rw [e]
    intro e2
    have e3 : t = k := by omega
    subst e3
    have hm := List.mem_of_getElem? eg
    rw [List.mem_filter, h] at hm
    exact absurd hm.2 (by simp)
  · have hm : k ∈ (List.range m).filter p := List.mem_filter.2 ⟨List.mem_range.2 hk, h⟩
    obtain ⟨i, hi, hv⟩ := List.mem_iff_getElem.1 hm
    have hi' : i < (linkK p m).length := by simpa [linkK] using hi
    refine hasB_yes (k := i) rfl hi' ?_
    obtain ⟨t, ht, e, eg⟩ := linkK_at hi'
    rw [List.getElem?_eq_getElem hi, hv] at eg
    injection eg with eg
    rw [e, eg]
def liU (vs : List (ByteArray × Int)) (rs : List RecD) (i k : Nat) : Bool := decide ((setL vs (memV (k : Int)) rs rs i).length = 1)
open Classical in
noncomputable def liS (vs : List (ByteArray × Int)) (rs : List RecD) (i : Nat) : Nat → Bool × List Int
  | 0 => (false, [])
  | k + 1 => if liU vs rs i k = true ∧ ((liS vs rs i k).1 = false ∨ (memV (k : Int)).length < (liS vs rs i k).2.length ∨ ((memV (k : Int)).length = (liS vs rs i k).2.length ∧ LexLt (memV (k : Int)) (liS vs rs i k).2)) then (true, memV (k : Int)) else liS vs rs i k
section
variable {vs : List (ByteArray × Int)} {rs : List RecD} {i k : Nat}
theorem liS_take (h : liU vs rs i k = true) (h2 : (liS vs rs i k).1 = false ∨ (memV (k : Int)).length < (liS vs rs i k).2.length ∨ ((memV (k : Int)).length = (liS vs rs i k).2.length ∧ LexLt (memV (k : Int)) (liS vs rs i k).2)) : liS vs rs i (k + 1) = (true, memV (k : Int)) := by
  simp only [liS]; rw [if_pos ⟨h, h2⟩]
theorem liS_no (h : liU vs rs i k = false) : liS vs rs i (k + 1) = liS vs rs i k := by
  simp only [liS]; rw [if_neg (by simp [h])]
theorem liS_keep (h2 : ¬ ((liS vs rs i k).1 = false ∨ (memV (k : Int)).length < (liS vs rs i k).2.length ∨ ((memV (k : Int)).length = (liS vs rs i k).2.length ∧ LexLt (memV (k : Int)) (liS vs rs i k).2))) : liS vs rs i (k + 1) = liS vs rs i k := by
  simp only [liS]; rw [if_neg (fun h => h2 h.2)]
theorem memV_len (x : Int) : (memV x).length ≤ 6 := linkK_len _ _
theorem liS_len (vs : List (ByteArray × Int)) (rs : List RecD) (i k : Nat) : (liS vs rs i k).2.length ≤ 6 := by
  induction k with
  | zero => simp [liS]
  | succ k ih => simp only [liS]; split <;> first | exact memV_len _ | exact ih
end
def liB (vs : List (ByteArray × Int)) (rs : List RecD) (i : Int) : Bool := dinB vs rs && inR i 0 ((rs.length : Int) - 1)
noncomputable def liR (vs : List (ByteArray × Int)) (rs : List RecD) (i : Int) : Bool × List Int := if liB vs rs i = true then liS vs rs i.toNat (2 ^ vs.length) else (false, [])
theorem two_pow {n : Nat} (h : n ≤ 6) : (2 : Nat) ^ n ≤ 64 := by
  have : (2 : Nat) ^ n ≤ 2 ^ 6 := Nat.pow_le_pow_right (by omega) h
  omega
theorem wrap_pow {n N : Nat} (hN : 2 ^ n = N) (h : n ≤ 6) : wrap64 ((2 : Int) ^ n) = (N : Int) := by
  have h1 := two_pow h
  have e : ((2 : Int) ^ n) = ((2 ^ n : Nat) : Int) := by simp
  rw [e, hN]
  have := IntWalk.i64_in (N : Int) (by omega)
  rw [IntKind.wrap_i64] at this
  simpa [wrap64] using this
theorem din_all {vs : List (ByteArray × Int)} {rs : List RecD} {n k : Nat} (hl : vs.length = n) (hs : schB vs = true) (hd : dataB vs rs = true) (hk : k < 2 ^ n) : AllOk vs rs (memV (k : Int)) n :=
  ⟨hl, hs, hd, memV_ris (by omega) (by have : ((2 ^ n : Nat) : Int) = (2 : Int) ^ n := by simp
                                       omega) (by have := (schB_of hs).1; omega)⟩

set_option maxRecDepth 100000 in
set_option maxHeartbeats 4000000 in
theorem implLeastIdentifying_law (i : Int) (A B : Option Addr) (n c m d : Nat) (vs : List (ByteArray × Int)) (rs : List RecD) (w : World) (hx : SchR w A n c vs) (hy : DatR w B m rs) :
    Calls Tryz.prog 14 #[.slice A n c, .slice B m d, .int .i64 i] w (RetInts w (liR vs rs i).2 (liR vs rs i).1) := by
  have hlen := Lib.hid hx.len
  have hml := Lib.hid hy.len
  have hnb := hx.bd
  have hmb := hy.bd
  cases h0 : schB vs
  · have hB : liB vs rs i = false := by unfold liB dinB; rw [h0]; rfl
    have H0 := Lib.hid h0
    clear h0
    have HR : Hid (liR vs rs i = (false, [])) := Lib.hid (by rw [liR, if_neg (by simp [hB])])
    rw [HR.out]
    clear hB
    go_enter Tryz.func14, Tryz.ntmps14
    go_wp2_with fail
    refine (IsSchema_any _ n _ vs _ hx.v hx.s hx.bd hx.cp).mono ?_
    rintro e w1 ⟨rfl, b1⟩
    rw [H0.out]
    have B1 := Lib.hid b1
    clear b1 hx hy
    go_wp2
    go_ret2
    exact ⟨none, 0, rfl, OwnI.nil_, B1.out⟩
  have H0 := Lib.hid h0
  cases h1 : dataB vs rs
  · have hB : liB vs rs i = false := by unfold liB dinB; rw [h0, h1]; rfl
    have H1 := Lib.hid h1
    clear h0 h1
    have HR : Hid (liR vs rs i = (false, [])) := Lib.hid (by rw [liR, if_neg (by simp [hB])])
    rw [HR.out]
    clear hB
    go_enter Tryz.func14, Tryz.ntmps14
    go_wp2_with fail
    refine (IsSchema_any _ n _ vs _ hx.v hx.s hx.bd hx.cp).mono ?_
    rintro e w1 ⟨rfl, b1⟩
    rw [H0.out]
    go_wp2_with fail
    refine (isData_any _ _ n _ m _ vs rs _ (hx.below b1) (hy.below b1)).mono ?_
    rintro e w2 ⟨rfl, b2⟩
    rw [H1.out]
    have B2 := Lib.hid (b1.trans (b2.mono b1.size))
    clear b1 b2 hx hy
    go_wp2
    go_ret2
    exact ⟨none, 0, rfl, OwnI.nil_, B2.out⟩
  have H1 := Lib.hid h1
  by_cases hi : 0 ≤ i ∧ i < m
  · have hB : liB vs rs i = true := by unfold liB dinB; rw [h0, h1, hml.out, inR_yes hi.1 (by omega)]; rfl
    have HS := Lib.hid h0
    have HD := Lib.hid h1
    have hsix := hx.six h0
    have h6 : n ≤ 6 := hsix.2
    obtain ⟨q, hqi, hqm⟩ : ∃ q : Nat, Hid (i = (q : Int)) ∧ q < m := ⟨i.toNat, Lib.hid (by omega), by omega⟩
    obtain ⟨N, hNN⟩ : ∃ N : Nat, 2 ^ n = N := ⟨_, rfl⟩
    have hN64 : N ≤ 64 := by rw [← hNN]; exact two_pow h6
    have HR : Hid (liR vs rs i = liS vs rs q N) := Lib.hid (by rw [liR, if_pos hB, hlen.out, hNN, hqi.out]; rfl)
    rw [HR.out]
    clear hB h0 h1
    have hi1 : 0 ≤ (q : Int) := by omega
    have hi2 : (q : Int) < m := by omega
    have hd1 : decide ((q : Int) < 0) = false := decide_eq_false (by omega)
    have hd2 : decide (m ≤ q) = false := decide_eq_false (by omega)
    have hd3 : decide ((m : Int) ≤ (q : Int)) = false := decide_eq_false (by omega)
    clear hi hi1
    rw [hqi.out]
    go_enter Tryz.func14, Tryz.ntmps14
    go_wp2_with fail
    refine (IsSchema_any _ n _ vs _ hx.v hx.s hx.bd hx.cp).mono ?_
    rintro e w1 ⟨rfl, b1⟩
    rw [H0.out]
    go_wp2_with fail
    refine (isData_any _ _ n _ m _ vs rs _ (hx.below b1) (hy.below b1)).mono ?_
    rintro e w2 ⟨rfl, b2⟩
    rw [H1.out]
    have HB2 := Lib.hid (b1.trans (b2.mono b1.size))
    have HX := Lib.hid (hx.below HB2.out)
    have HY := Lib.hid (hy.below HB2.out)
    clear b1 b2 hx hy
    have hw := wrap_pow hNN h6
    have HNN := Lib.hid hNN
    clear hNN
    go_wp2
    rw [hw]
    clear hw
    go_loopw [8, 9, 34] (fun a b i wr => ∃ (k : Nat) (D : Option Addr) (c3 : Nat), k ≤ N ∧ i = .int .i64 k ∧ a = .slice D (liS vs rs q k).2.length c3 ∧ b = .bool (liS vs rs q k).1 ∧ Own wr w2.heap.size D (liS vs rs q k).2.length c3 (liS vs rs q k).2 ∧ Below w2.heap.size w2 wr) (fun _ _ i _ => N - (intOf i).toNat)
    case atStart => exact ⟨0, none, 0, Nat.zero_le _, rfl, rfl, rfl, Own.nil_, Below.refl _ _⟩
    case round =>
      obtain ⟨k, D, c3, hk, rfl, rfl, rfl, hown, hbw⟩ := hrel
      have hbl := liS_len vs rs q k
      by_cases hlt : k < N
      · have hall := Lib.hid (din_all (k := k) hlen.out HS.out HD.out (by rw [HNN.out]; exact hlt))
        have T0 := Lib.hid (liS_take (vs := vs) (rs := rs) (i := q) (k := k))
        have N0 := Lib.hid (liS_no (vs := vs) (rs := rs) (i := q) (k := k))
        have K0 := Lib.hid (liS_keep (vs := vs) (rs := rs) (i := q) (k := k))
        have U0 := Lib.hid (show liU vs rs q k = decide ((setL vs (memV (k : Int)) rs rs q).length = 1) from rfl)
        have hml6 := memV_len (k : Int)
        have HO := Lib.hid hown
        have HB := Lib.hid hbw
        clear hown hbw
        go_wp2_with fail
        refine (membersOf_any (k : Int) _ (by omega) (by omega)).mono ?_
        rintro e w3 ⟨A3, c4, rfl, o3, b3⟩
        have HO3 := Lib.hid (HO.out.below b3)
        have HB3 := Lib.hid (HB.out.trans (b3.mono HB.out.size))
        have HM3 := Lib.hid (o3.own.mono (B' := w2.heap.size) HB.out.size)
        clear HO HB b3 o3
        generalize memV (k : Int) = mv at *
        generalize liS vs rs q k = st at *
        obtain ⟨f0, bl⟩ := st
        dsimp only at *
        cases f0
        · go_wp2_with fail
          refine (classSizes_any _ _ _ n _ m _ mv.length _ vs rs mv _ (HX.out.below HB3.out) (HY.out.below HB3.out) ⟨HM3.out.ints, by omega⟩ hall.out).mono ?_
          rintro e w5 ⟨A5, c5, rfl, o5, b5⟩
          have HH := Lib.hid (show (csL vs mv rs)[q]?.getD 0 = ((setL vs mv rs rs q).length : Int) from tabl_at (by rw [hml.out]; exact hqm))
          obtain ⟨ad5, rfl, hc5⟩ := o5.ints.at_ hqm
          rw [HH.out] at hc5
          have HB4 := Lib.hid (HB3.out.trans (b5.mono HB3.out.size))
          have HO4 := Lib.hid (HO3.out.below b5)
          have HM4 := Lib.hid (HM3.out.below b5)
          clear b5 o5 HO3 HM3 HB3
          by_cases hu : (setL vs mv rs rs q).length = 1
          · have R := Lib.hid (T0.out (by rw [U0.out]; simp [hu]) (.inl (by first | rfl | trivial)))
            rw [hu] at hc5
            clear hu
            go_wp2
            go_roundw
            case rel => exact ⟨k + 1, _, _, by omega, by go_num, by rw [R.out], by rw [R.out], by rw [R.out]; exact HM4.out, HB4.out⟩
            case measure => simp [intOf]; omega
          · have R := Lib.hid (N0.out (by rw [U0.out]; simp [hu]))
            have hu' : (((setL vs mv rs rs q).length : Int) == 1) = false := by rw [beq_eq_false_iff_ne]; omega
            clear hu
            go_wp2
            go_roundw
            case rel => exact ⟨k + 1, _, _, by omega, by go_num, by rw [R.out], by rw [R.out], by rw [R.out]; exact HO4.out, HB4.out⟩
            case measure => simp [intOf]; omega
        by_cases hl : mv.length < bl.length
        · have hl2 : ¬ bl.length < mv.length := by omega
          have he : ((mv.length : Int) == (bl.length : Int)) = false := by rw [beq_eq_false_iff_ne]; omega
          go_wp2_with fail
          clear hl2 he
          refine (classSizes_any _ _ _ n _ m _ mv.length _ vs rs mv _ (HX.out.below HB3.out) (HY.out.below HB3.out) ⟨HM3.out.ints, by omega⟩ hall.out).mono ?_
          rintro e w5 ⟨A5, c5, rfl, o5, b5⟩
          have HH := Lib.hid (show (csL vs mv rs)[q]?.getD 0 = ((setL vs mv rs rs q).length : Int) from tabl_at (by rw [hml.out]; exact hqm))
          obtain ⟨ad5, rfl, hc5⟩ := o5.ints.at_ hqm
          rw [HH.out] at hc5
          have HB4 := Lib.hid (HB3.out.trans (b5.mono HB3.out.size))
          have HO4 := Lib.hid (HO3.out.below b5)
          have HM4 := Lib.hid (HM3.out.below b5)
          clear b5 o5 HO3 HM3 HB3
          by_cases hu : (setL vs mv rs rs q).length = 1
          · have R := Lib.hid (T0.out (by rw [U0.out]; simp [hu]) (.inr (.inl hl)))
            rw [hu] at hc5
            clear hu
            go_wp2
            go_roundw
            case rel => exact ⟨k + 1, _, _, by omega, by go_num, by rw [R.out], by rw [R.out], by rw [R.out]; exact HM4.out, HB4.out⟩
            case measure => simp [intOf]; omega
          · have R := Lib.hid (N0.out (by rw [U0.out]; simp [hu]))
            have hu' : (((setL vs mv rs rs q).length : Int) == 1) = false := by rw [beq_eq_false_iff_ne]; omega
            clear hu
            go_wp2
            go_roundw
            case rel => exact ⟨k + 1, _, _, by omega, by go_num, by rw [R.out], by rw [R.out], by rw [R.out]; exact HO4.out, HB4.out⟩
            case measure => simp [intOf]; omega
        by_cases hle : mv.length = bl.length
        · have he : ((mv.length : Int) == (bl.length : Int)) = true := by simp [hle]
          have hl2 : ¬ bl.length < mv.length := by omega
          have HLE := Lib.hid hle
          clear hle
          go_wp2_with fail
          refine (compare_any _ _ _ _ _ _ mv bl _ ⟨HM3.out.ints, by omega⟩ ⟨HO3.out.ints, by omega⟩).mono ?_
          rintro e w4 ⟨r, rfl, hr, b4⟩
          have HO3' := Lib.hid (HO3.out.below b4)
          have HM3' := Lib.hid (HM3.out.below b4)
          have HB3' := Lib.hid (HB3.out.trans (b4.mono HB3.out.size))
          have HRR := Lib.hid hr
          clear HO3 HM3 HB3 b4 hr
          have HO3 := HO3'
          have HM3 := HM3'
          have HB3 := HB3'
          clear HO3' HM3' HB3'
          by_cases hr0 : r < 0
          · go_wp2_with fail
            clear he hl2
            refine (classSizes_any _ _ _ n _ m _ mv.length _ vs rs mv _ (HX.out.below HB3.out) (HY.out.below HB3.out) ⟨HM3.out.ints, by omega⟩ hall.out).mono ?_
            rintro e w5 ⟨A5, c5, rfl, o5, b5⟩
            have HH := Lib.hid (show (csL vs mv rs)[q]?.getD 0 = ((setL vs mv rs rs q).length : Int) from tabl_at (by rw [hml.out]; exact hqm))
            obtain ⟨ad5, rfl, hc5⟩ := o5.ints.at_ hqm
            rw [HH.out] at hc5
            have HB4 := Lib.hid (HB3.out.trans (b5.mono HB3.out.size))
            have HO4 := Lib.hid (HO3.out.below b5)
            have HM4 := Lib.hid (HM3.out.below b5)
            clear b5 o5 HO3 HM3 HB3
            by_cases hu : (setL vs mv rs rs q).length = 1
            · have R := Lib.hid (T0.out (by rw [U0.out]; simp [hu]) (.inr (.inr ⟨HLE.out, HRR.out.1 hr0⟩)))
              rw [hu] at hc5
              clear hu
              go_wp2
              go_roundw
              case rel => exact ⟨k + 1, _, _, by omega, by go_num, by rw [R.out], by rw [R.out], by rw [R.out]; exact HM4.out, HB4.out⟩
              case measure => simp [intOf]; omega
            · have R := Lib.hid (N0.out (by rw [U0.out]; simp [hu]))
              have hu' : (((setL vs mv rs rs q).length : Int) == 1) = false := by rw [beq_eq_false_iff_ne]; omega
              clear hu
              go_wp2
              go_roundw
              case rel => exact ⟨k + 1, _, _, by omega, by go_num, by rw [R.out], by rw [R.out], by rw [R.out]; exact HO4.out, HB4.out⟩
              case measure => simp [intOf]; omega
          · have R := Lib.hid (K0.out (by rintro (h | h | ⟨_, h⟩); · cases h
                                          · exact hl h
                                          · exact hr0 (HRR.out.2 h)))
            have HB4 := HB3
            go_wp2
            go_roundw
            case rel => exact ⟨k + 1, _, _, by omega, by go_num, by rw [R.out], by rw [R.out], by rw [R.out]; exact HO3.out, HB4.out⟩
            case measure => simp [intOf]; omega
        · have he : bl.length < mv.length := by omega
          have R := Lib.hid (K0.out (by rintro (h | h | ⟨h, _⟩); · cases h
                                        · exact hl h
                                        · exact hle h))
          have HB4 := HB3
          clear hle
          go_wp2
          go_roundw
          case rel => exact ⟨k + 1, _, _, by omega, by go_num, by rw [R.out], by rw [R.out], by rw [R.out]; exact HO3.out, HB4.out⟩
          case measure => simp [intOf]; omega
      · obtain rfl : k = N := by omega
        go_wp2
        go_ret2
        exact ⟨_, _, rfl, (OwnI.of_own hown (by omega)).fit HB2.out.size, HB2.out.trans (hbw.mono HB2.out.size)⟩
  · have hB : liB vs rs i = false := by unfold liB dinB; rw [h0, h1, hml.out, inR_no (by omega)]; rfl
    clear h0 h1
    have HR : Hid (liR vs rs i = (false, [])) := Lib.hid (by rw [liR, if_neg (by simp [hB])])
    rw [HR.out]
    clear hB
    by_cases hi0 : i < 0
    all_goals
      have hi1 : ¬ i < 0 → (m : Int) ≤ i := fun h => by omega
      clear hi
      go_enter Tryz.func14, Tryz.ntmps14
      go_wp2_with fail
      refine (IsSchema_any _ n _ vs _ hx.v hx.s hx.bd hx.cp).mono ?_
      rintro e w1 ⟨rfl, b1⟩
      rw [H0.out]
      go_wp2_with fail
      refine (isData_any _ _ n _ m _ vs rs _ (hx.below b1) (hy.below b1)).mono ?_
      rintro e w2 ⟨rfl, b2⟩
      rw [H1.out]
      have B2 := Lib.hid (b1.trans (b2.mono b1.size))
      clear b1 b2 hx hy
      first
        | (have hi2 : (m : Int) ≤ i := hi1 hi0; clear hi1; go_wp2; go_ret2; exact ⟨none, 0, rfl, OwnI.nil_, B2.out⟩)
        | (clear hi1; go_wp2; go_ret2; exact ⟨none, 0, rfl, OwnI.nil_, B2.out⟩)

set_option maxRecDepth 100000 in
set_option maxHeartbeats 4000000 in
theorem specLeastIdentifying_law (i : Int) (A B : Option Addr) (n c m d : Nat) (vs : List (ByteArray × Int)) (rs : List RecD) (w : World) (hx : SchR w A n c vs) (hy : DatR w B m rs) :
    Calls Tryz.prog 15 #[.slice A n c, .slice B m d, .int .i64 i] w (RetInts w (liR vs rs i).2 (liR vs rs i).1) := by
  have hlen := Lib.hid hx.len
  have hml := Lib.hid hy.len
  have hnb := hx.bd
  have hmb := hy.bd
  cases h0 : dinB vs rs
  · have hB : liB vs rs i = false := by unfold liB; rw [h0]; rfl
    have H0 := Lib.hid h0
    clear h0
    have HR : Hid (liR vs rs i = (false, [])) := Lib.hid (by rw [liR, if_neg (by simp [hB])])
    rw [HR.out]
    clear hB
    go_enter Tryz.func15, Tryz.ntmps15
    go_wp2_with fail
    refine (dInput_any _ _ n _ m _ vs rs _ hx hy).mono ?_
    rintro e w1 ⟨rfl, b1⟩
    rw [H0.out]
    have B1 := Lib.hid b1
    clear b1 hx hy
    go_wp2
    go_ret2
    exact ⟨none, 0, rfl, OwnI.nil_, B1.out⟩
  have H0 := Lib.hid h0
  cases h2 : inR i 0 ((m : Int) - 1)
  · have hB : liB vs rs i = false := by unfold liB; rw [h0, hml.out, h2]; rfl
    have H1 := Lib.hid h2
    clear h0 h2
    have HR : Hid (liR vs rs i = (false, [])) := Lib.hid (by rw [liR, if_neg (by simp [hB])])
    rw [HR.out]
    clear hB
    go_enter Tryz.func15, Tryz.ntmps15
    go_wp2_with fail
    refine (dInput_any _ _ n _ m _ vs rs _ hx hy).mono ?_
    rintro e w1 ⟨rfl, b1⟩
    rw [H0.out]
    have B1 := Lib.hid b1
    clear b1 hx hy
    go_wp2_with fail
    refine (l1In_any _ _ _ _).mono ?_
    rintro e w2 ⟨rfl, rfl⟩
    rw [H1.out]
    go_wp2
    go_ret2
    exact ⟨none, 0, rfl, OwnI.nil_, B1.out⟩
  have H1 := Lib.hid h2
  have hB : liB vs rs i = true := by unfold liB; rw [h0, hml.out, h2]; rfl
  have hi := inR_of h2
  obtain ⟨hs0, hd0⟩ : schB vs = true ∧ dataB vs rs = true := by simpa [dinB] using h0
  clear h0 h2
  have h0 := hs0
  have h1 := hd0
  clear hs0 hd0
  have HS := Lib.hid h0
  have HD := Lib.hid h1
  have hsix := hx.six h0
  have h6 : n ≤ 6 := hsix.2
  obtain ⟨q, hqi, hqm⟩ : ∃ q : Nat, Hid (i = (q : Int)) ∧ q < m := ⟨i.toNat, Lib.hid (by omega), by omega⟩
  obtain ⟨N, hNN⟩ : ∃ N : Nat, 2 ^ n = N := ⟨_, rfl⟩
  have hN64 : N ≤ 64 := by rw [← hNN]; exact two_pow h6
  have HR : Hid (liR vs rs i = liS vs rs q N) := Lib.hid (by rw [liR, if_pos hB, hlen.out, hNN, hqi.out]; rfl)
  rw [HR.out]
  clear hB h0 h1
  clear hi
  go_enter Tryz.func15, Tryz.ntmps15
  go_wp2_with fail
  refine (dInput_any _ _ n _ m _ vs rs _ hx hy).mono ?_
  rintro e w2 ⟨rfl, b2⟩
  rw [H0.out]
  have HB2 := Lib.hid b2
  have HX := Lib.hid (hx.below b2)
  have HY := Lib.hid (hy.below b2)
  clear b2 hx hy
  go_wp2_with fail
  refine (l1In_any _ _ _ _).mono ?_
  rintro e w2' ⟨rfl, rfl⟩
  rw [H1.out]
  have hw := wrap_pow hNN h6
  have HNN := Lib.hid hNN
  clear hNN
  go_wp2
  go_loopw [8, 9, 10] (fun a b i wr => ∃ (k : Nat) (D : Option Addr) (c3 : Nat), k ≤ N ∧ i = .int .i64 k ∧ a = .slice D (liS vs rs q k).2.length c3 ∧ b = .bool (liS vs rs q k).1 ∧ Own wr w2.heap.size D (liS vs rs q k).2.length c3 (liS vs rs q k).2 ∧ Below w2.heap.size w2 wr) (fun _ _ i _ => N - (intOf i).toNat)
  case atStart => exact ⟨0, none, 0, Nat.zero_le _, rfl, rfl, rfl, Own.nil_, Below.refl _ _⟩
  case round =>
    obtain ⟨k, D, c3, hk, rfl, rfl, rfl, hown, hbw⟩ := hrel
    have hbl := liS_len vs rs q k
    by_cases hlt : k < N
    · have hall := Lib.hid (din_all (k := k) hlen.out HS.out HD.out (by rw [HNN.out]; exact hlt))
      have T0 := Lib.hid (liS_take (vs := vs) (rs := rs) (i := q) (k := k))
      have N0 := Lib.hid (liS_no (vs := vs) (rs := rs) (i := q) (k := k))
      have K0 := Lib.hid (liS_keep (vs := vs) (rs := rs) (i := q) (k := k))
      have U0 := Lib.hid (show liU vs rs q k = decide ((setL vs (memV (k : Int)) rs rs q).length = 1) from rfl)
      have hml6 := memV_len (k : Int)
      have HO := Lib.hid hown
      have HB := Lib.hid hbw
      clear hown hbw
      go_wp2_with fail
      refine (eLevels_any (k : Int) _ (by omega) (by omega)).mono ?_
      rintro e w3 ⟨A3, c4, rfl, o3, b3⟩
      have HO3 := Lib.hid (HO.out.below b3)
      have HB3 := Lib.hid (HB.out.trans (b3.mono HB.out.size))
      have HM3 := Lib.hid (o3.own.mono (B' := w2.heap.size) HB.out.size)
      clear HO HB b3 o3
      generalize memV (k : Int) = mv at *
      generalize liS vs rs q k = st at *
      obtain ⟨f0, bl⟩ := st
      dsimp only at *
      go_wp2_with fail
      refine (liUnique_any _ _ _ n _ m _ mv.length _ vs rs mv _ (HX.out.below HB3.out) (HY.out.below HB3.out) ⟨HM3.out.ints, by omega⟩ hall.out).mono ?_
      rintro e w4 ⟨A4, c5, rfl, o4, b4⟩
      have HH := Lib.hid (show hasB (uqL vs mv rs) i = liU vs rs q k by
        unfold uqL
        rw [hqi.out, hasB_link (by rw [hml.out]; exact hqm), U0.out])
      have HO4 := Lib.hid (HO3.out.below b4)
      have HM4 := Lib.hid (HM3.out.below b4)
      have HB4 := Lib.hid (HB3.out.trans (b4.mono HB3.out.size))
      have ho4 := o4.intR
      clear HO3 HB3 HM3 b4 o4
      go_wp2_with fail
      refine (l1Has_any _ _ _ i _ _ ho4).mono ?_
      rintro e w5 ⟨rfl, rfl⟩
      rw [HH.out]
      clear ho4
      cases hU : liU vs rs q k
      · have R := Lib.hid (N0.out hU)
        clear hU
        go_wp2
        go_roundw
        case rel => exact ⟨k + 1, _, _, by omega, by go_num, by rw [R.out], by rw [R.out], by rw [R.out]; exact HO4.out, HB4.out⟩
        case measure => simp [intOf]; omega
      have HU := Lib.hid hU
      clear hU
      cases f0
      · have R := Lib.hid (T0.out HU.out (.inl (by first | rfl | trivial)))
        go_wp2
        go_roundw
        case rel => exact ⟨k + 1, _, _, by omega, by go_num, by rw [R.out], by rw [R.out], by rw [R.out]; exact HM4.out, HB4.out⟩
        case measure => simp [intOf]; omega
      by_cases hl : mv.length < bl.length
      · have R := Lib.hid (T0.out HU.out (.inr (.inl hl)))
        go_wp2
        go_roundw
        case rel => exact ⟨k + 1, _, _, by omega, by go_num, by rw [R.out], by rw [R.out], by rw [R.out]; exact HM4.out, HB4.out⟩
        case measure => simp [intOf]; omega
      by_cases hle : mv.length = bl.length
      · have he : ((mv.length : Int) == (bl.length : Int)) = true := by simp [hle]
        have HLE := Lib.hid hle
        clear hle
        go_wp2_with fail
        refine (l1Less_any _ _ _ _ _ _ mv bl _ ⟨HM4.out.ints, by omega⟩ ⟨HO4.out.ints, by omega⟩).mono ?_
        rintro e w6 ⟨r, rfl, hr, b6⟩
        have HO6 := Lib.hid (HO4.out.below b6)
        have HM6 := Lib.hid (HM4.out.below b6)
        have HB6 := Lib.hid (HB4.out.trans (b6.mono HB4.out.size))
        have HRR := Lib.hid hr
        clear HO4 HM4 HB4 b6 hr
        have HO4 := HO6
        have HM4 := HM6
        have HB4 := HB6
        by_cases hr0 : r < 0
        · have R := Lib.hid (T0.out HU.out (.inr (.inr ⟨HLE.out, HRR.out.1 hr0⟩)))
          go_wp2
          go_roundw
          case rel => exact ⟨k + 1, _, _, by omega, by go_num, by rw [R.out], by rw [R.out], by rw [R.out]; exact HM4.out, HB4.out⟩
          case measure => simp [intOf]; omega
        · have R := Lib.hid (K0.out (by rintro (h | h | ⟨_, h⟩); · cases h
                                        · exact hl h
                                        · exact hr0 (HRR.out.2 h)))
          go_wp2
          go_roundw
          case rel => exact ⟨k + 1, _, _, by omega, by go_num, by rw [R.out], by rw [R.out], by rw [R.out]; exact HO4.out, HB4.out⟩
          case measure => simp [intOf]; omega
      · have he : ((mv.length : Int) == (bl.length : Int)) = false := by rw [beq_eq_false_iff_ne]; omega
        have R := Lib.hid (K0.out (by rintro (h | h | ⟨h, _⟩); · cases h
                                      · exact hl h
                                      · exact hle h))
        clear hle
        go_wp2
        go_roundw
        case rel => exact ⟨k + 1, _, _, by omega, by go_num, by rw [R.out], by rw [R.out], by rw [R.out]; exact HO4.out, HB4.out⟩
        case measure => simp [intOf]; omega
    · obtain rfl : k = N := by omega
      go_wp2
      go_ret2
      exact ⟨_, _, rfl, (OwnI.of_own hown (by omega)).fit HB2.out.size, HB2.out.trans (hbw.mono HB2.out.size)⟩

end Go.Proofs.YtgeilnkglbcmeaaGreat
