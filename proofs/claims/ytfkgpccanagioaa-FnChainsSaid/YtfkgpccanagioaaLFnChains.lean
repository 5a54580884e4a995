/- The walk of the law FnChains, printed by gdl.py. -/
import Derived.Test.YtfkgpccanagioaaLaw
import Derived.Test.YtfkgpccanagioaaDrawC
import Derived.Test.YtfkgpccanagioaaSealLaw
import Derived.Test.YtfkgpccanagioaaHashList
namespace Go.Proofs.Ytfkgpccanagioaa
open Go.RowKit

theorem own_cap {w : World} {B n c : Nat} {A : Option Addr} {xs : List Int} (h : Own w B A n c xs) (hn : 0 < n) : n ≤ c := by
  rcases h.2 with ⟨_, h0⟩ | ⟨g, cap, cur, hv, _, _, hc, _⟩
  · omega
  · simp only [Value.slice.injEq, true_and] at hv
    omega

set_option maxRecDepth 100000 in
set_option maxHeartbeats 4000000 in
theorem walk_FnChains (a0 : Option Addr) (n0 c0 : Nat) (z0 : List Int) (a1 : Option Addr) (n1 c1 : Nat) (z1 : List Int) (w : World) (r0 : Bytes w a0 n0 z0) (m0 : n0 ≤ maxLen) (f0 : ∀ x ∈ z0, (Lit.int .u8 x).wf = true) (r1 : Bytes w a1 n1 z1) (_m1 : n1 ≤ maxLen) (f1 : ∀ x ∈ z1, (Lit.int .u8 x).wf = true) :
    Calls Try.prog 4 #[.slice a0 n0 c0, .slice a1 n1 c1] w fun e w' => e = .returned (.bool true) ∧ Below w.heap.size w w' := by
  have hb0 := Lib.hid (byt_of r0 f0)
  have hb1 := Lib.hid (byt_of r1 f1)
  have B0 := Below.refl w.heap.size w
  clear r0 f0 r1 f1
  go_enter Try.func4, Try.ntmps4
  go_wp2_with fail
  refine (big_any _ _ _ _ _ _ _ m0).mono ?_
  rintro e w' ⟨rfl, rfl⟩
  cases hbig : bigB n0 n1
  case true =>
    clear hbig
    go_wp2
    go_ret
    exact ⟨rfl, B0⟩
  have hbg := bigB_of hbig
  have hn0 := hbg.1
  have hn1 := hbg.2
  clear hbig hbg m0
  go_wp2_with fail
  refine (drawChainOf_any _ _ _ _ (hb0.out.below B0) hn0).mono ?_
  rintro e w1 ⟨A2, m2, c2, xs, rfl, hm2, ol, b1⟩
  have B1 := B0.trans (b1.mono B0.size)
  have S1 := b1.size
  clear b1 B0
  go_wp2_with fail
  refine (implChainOf_law _ _ _ _ _ ol.ints ol.small).mono ?_
  rintro e w2 ⟨A4, c4, rfl, o4, b2⟩
  have B2 := B1.trans (b2.mono B1.size)
  replace ol := ol.below b2
  have S2 := b2.size
  clear b2 B1
  go_wp2_with fail
  refine (specChainOf_law _ _ _ _ _ ol.ints ol.small).mono ?_
  rintro e w3 ⟨A5, c5, rfl, o5, b3⟩
  have B3 := B2.trans (b3.mono B2.size)
  replace ol := ol.below b3
  replace o4 := o4.below b3
  have S3 := b3.size
  clear b3 B2
  go_wp2_with fail
  refine (sameInts_any _ _ _ _ _ _ _ o4.ints o5.ints o4.small).mono ?_
  rintro e w4 ⟨rfl, b4⟩
  have B4 := B3.trans (b4.mono B3.size)
  replace ol := ol.below b4
  replace o4 := o4.below b4
  replace o5 := o5.below b4
  have S4 := b4.size
  clear b4 B3
  have hlen := ol.own.len
  have HCG := Lib.hid (fun h => chain_good (xs := xs) h)
  have HCT := Lib.hid (fun k hk h => chain_take (xs := xs) (m := k) hk h)
  have HLE : Hid (chainB xs = true → (chainV xs).length = m2) := Lib.hid fun h => by
    have h2 : xs.length ≤ 392 := by simpa [chainB] using h
    unfold chainV; rw [if_pos h2]; unfold chainL; rw [tabl_len]; exact hlen
  cases hP : chainB xs
  · clear hP HCG HCT HLE hlen
    clear ol o4 o5
    go_wp2_with fail
    refine (drawFirstBadLink_any _ _ _ _ (hb1.out.below B4) hn1).mono ?_
    rintro e w5 ⟨A6, m6, c6, xs6, A7, m7, c7, xs7, rfl, o6, o7, b5⟩
    have B5 := B4.trans (b5.mono B4.size)
    have S5 := b5.size
    clear b5 B4
    go_wp2_with fail
    refine (implFirstBadLink_law _ _ _ _ _ _ _ _ _ o6.ints o6.small o7.ints o7.small).mono ?_
    rintro e w6 ⟨rfl, b6⟩
    have B6 := B5.trans (b6.mono B5.size)
    replace o6 := o6.below b6
    replace o7 := o7.below b6
    have S6 := b6.size
    clear b6 B5
    go_wp2_with fail
    refine (specFirstBadLink_law _ _ _ _ _ _ _ _ _ o6.ints o6.small o7.ints o7.small).mono ?_
    rintro e w7 ⟨rfl, b7⟩
    have B7 := B6.trans (b7.mono B6.size)
    replace o6 := o6.below b7
    replace o7 := o7.below b7
    have S7 := b7.size
    clear b7 B6
    go_wp2_with fail
    refine (implHashList_any _ _ _ _ _ o6.ints).mono ?_
    rintro e w' ⟨rfl, rfl⟩
    go_wp2_with fail
    refine (specHashList_any _ _ _ _ _ o6.ints).mono ?_
    rintro e w' ⟨rfl, rfl⟩
    clear o6 o7
    go_wp2_with fail
    refine (drawHashWord_any _ _ _ _ (hb1.out.below B7) hn1).mono ?_
    rintro e w8 ⟨wd, rfl, hwd, b8⟩
    have B8 := B7.trans (b8.mono B7.size)
    have S8 := b8.size
    clear b8 B7
    go_wp2_with fail
    refine (implHashWord_law _ _ (by omega)).mono ?_
    rintro e w9 ⟨rfl, b9⟩
    have B9 := B8.trans (b9.mono B8.size)
    have S9 := b9.size
    clear b9 B8
    go_wp2_with fail
    refine (specHashWord_law _ _ (by omega)).mono ?_
    rintro e w10 ⟨rfl, b10⟩
    have B10 := B9.trans (b10.mono B9.size)
    have S10 := b10.size
    clear b10 B9
    go_wp2_with fail
    refine (drawDerivedSeed_any _ _ _ _ (hb1.out.below B10) hn1).mono ?_
    rintro e w11 ⟨sd, lb, rfl, hlb, b11⟩
    have B11 := B10.trans (b11.mono B10.size)
    have S11 := b11.size
    clear b11 B10
    go_wp2_with fail
    refine (implDerivedSeed_law _ _ _ (by omega)).mono ?_
    rintro e w12 ⟨rfl, b12⟩
    have B12 := B11.trans (b12.mono B11.size)
    have S12 := b12.size
    clear b12 B11
    go_wp2_with fail
    refine (specDerivedSeed_law _ _ _ (by omega)).mono ?_
    rintro e w13 ⟨rfl, b13⟩
    have B13 := B12.trans (b13.mono B12.size)
    have S13 := b13.size
    clear b13 B12
    go_wp2
    go_ret
    exact ⟨rfl, B13⟩
  · have hcg := HCG.out hP
    have HV := Lib.hid hcg.1
    have HW := Lib.hid hcg.2
    have HT := Lib.hid (HCT.out (m2 - 1) (by omega) hP)
    have HL := Lib.hid (HLE.out hP)
    have HLN := Lib.hid hlen
    clear hP hcg HCG HCT HLE hlen
    go_wp2_with fail
    refine (implFirstBadLink_law _ _ _ _ _ _ _ _ _ ol.ints ol.small o4.ints o4.small).mono ?_
    rintro e w14 ⟨rfl, b14⟩
    have B14 := B4.trans (b14.mono B4.size)
    replace ol := ol.below b14
    replace o4 := o4.below b14
    replace o5 := o5.below b14
    have S14 := b14.size
    clear b14 B4
    rw [HV.out, HW.out, HLN.out]
    clear HV HW
    by_cases h0 : 0 < m2
    · have hcl : m2 ≤ c2 := own_cap ol.own h0
      have hc5 : m2 ≤ c5 := by have := own_cap o5.own (by rw [HL.out]; exact h0); rw [HL.out] at this; exact this
      rw [HL.out] at o5 ⊢
      obtain ⟨gl, hgl, _⟩ := ol.own.head h0
      obtain ⟨g5, hg5, _⟩ := o5.own.head h0
      subst hgl hg5
      obtain ⟨k, hk⟩ : ∃ k, m2 = k + 1 := ⟨m2 - 1, by omega⟩
      subst hk
      rw [show k + 1 - 1 = k by omega] at HT
      have hI1 := ints_take ol.ints (show k ≤ k + 1 by omega)
      have hI5 := ints_take o5.ints (show k ≤ k + 1 by omega)
      have HT1 := Lib.hid HT.out.1
      have HT2 := Lib.hid HT.out.2
      have hks := ol.small
      have HLk : Hid (((chainV xs).take k).length = k) := Lib.hid (by rw [List.length_take, HL.out]; omega)
      clear hI1 hI5 HT
      go_wp2_with fail
      refine (implChainOf_law _ _ _ _ _ (ints_take ol.ints (show k ≤ k + 1 by omega)) (by omega)).mono ?_
      rintro e w15 ⟨A8, c8, rfl, o8, b15⟩
      have B15 := B14.trans (b15.mono B14.size)
      replace ol := ol.below b15
      replace o4 := o4.below b15
      replace o5 := o5.below b15
      have S15 := b15.size
      clear b15 B14
      rw [HT1.out] at o8 ⊢
      rw [HT2.out]
      rw [HLk.out] at o8 ⊢
      go_wp2_with fail
      refine (sameInts_any _ _ _ _ _ _ _ o8.ints (ints_take o5.ints (show k ≤ k + 1 by omega)) o8.small).mono ?_
      rintro e w16 ⟨rfl, b16⟩
      have B16 := B15.trans (b16.mono B15.size)
      replace ol := ol.below b16
      replace o4 := o4.below b16
      replace o5 := o5.below b16
      replace o8 := o8.below b16
      have S16 := b16.size
      clear b16 B15
      clear HT1 HT2 HLk HL HLN hcl hc5 hks
      clear ol o4 o5 o8
      go_wp2_with fail
      refine (drawFirstBadLink_any _ _ _ _ (hb1.out.below B16) hn1).mono ?_
      rintro e w17 ⟨A6, m6, c6, xs6, A7, m7, c7, xs7, rfl, o6, o7, b17⟩
      have B17 := B16.trans (b17.mono B16.size)
      have S17 := b17.size
      clear b17 B16
      go_wp2_with fail
      refine (implFirstBadLink_law _ _ _ _ _ _ _ _ _ o6.ints o6.small o7.ints o7.small).mono ?_
      rintro e w18 ⟨rfl, b18⟩
      have B18 := B17.trans (b18.mono B17.size)
      replace o6 := o6.below b18
      replace o7 := o7.below b18
      have S18 := b18.size
      clear b18 B17
      go_wp2_with fail
      refine (specFirstBadLink_law _ _ _ _ _ _ _ _ _ o6.ints o6.small o7.ints o7.small).mono ?_
      rintro e w19 ⟨rfl, b19⟩
      have B19 := B18.trans (b19.mono B18.size)
      replace o6 := o6.below b19
      replace o7 := o7.below b19
      have S19 := b19.size
      clear b19 B18
      go_wp2_with fail
      refine (implHashList_any _ _ _ _ _ o6.ints).mono ?_
      rintro e w' ⟨rfl, rfl⟩
      go_wp2_with fail
      refine (specHashList_any _ _ _ _ _ o6.ints).mono ?_
      rintro e w' ⟨rfl, rfl⟩
      clear o6 o7
      go_wp2_with fail
      refine (drawHashWord_any _ _ _ _ (hb1.out.below B19) hn1).mono ?_
      rintro e w20 ⟨wd, rfl, hwd, b20⟩
      have B20 := B19.trans (b20.mono B19.size)
      have S20 := b20.size
      clear b20 B19
      go_wp2_with fail
      refine (implHashWord_law _ _ (by omega)).mono ?_
      rintro e w21 ⟨rfl, b21⟩
      have B21 := B20.trans (b21.mono B20.size)
      have S21 := b21.size
      clear b21 B20
      go_wp2_with fail
      refine (specHashWord_law _ _ (by omega)).mono ?_
      rintro e w22 ⟨rfl, b22⟩
      have B22 := B21.trans (b22.mono B21.size)
      have S22 := b22.size
      clear b22 B21
      go_wp2_with fail
      refine (drawDerivedSeed_any _ _ _ _ (hb1.out.below B22) hn1).mono ?_
      rintro e w23 ⟨sd, lb, rfl, hlb, b23⟩
      have B23 := B22.trans (b23.mono B22.size)
      have S23 := b23.size
      clear b23 B22
      go_wp2_with fail
      refine (implDerivedSeed_law _ _ _ (by omega)).mono ?_
      rintro e w24 ⟨rfl, b24⟩
      have B24 := B23.trans (b24.mono B23.size)
      have S24 := b24.size
      clear b24 B23
      go_wp2_with fail
      refine (specDerivedSeed_law _ _ _ (by omega)).mono ?_
      rintro e w25 ⟨rfl, b25⟩
      have B25 := B24.trans (b25.mono B24.size)
      have S25 := b25.size
      clear b25 B24
      go_wp2
      go_ret
      exact ⟨rfl, B25⟩
    · clear HT HL HLN
      clear ol o4 o5
      go_wp2_with fail
      refine (drawFirstBadLink_any _ _ _ _ (hb1.out.below B14) hn1).mono ?_
      rintro e w26 ⟨A6, m6, c6, xs6, A7, m7, c7, xs7, rfl, o6, o7, b26⟩
      have B26 := B14.trans (b26.mono B14.size)
      have S26 := b26.size
      clear b26 B14
      go_wp2_with fail
      refine (implFirstBadLink_law _ _ _ _ _ _ _ _ _ o6.ints o6.small o7.ints o7.small).mono ?_
      rintro e w27 ⟨rfl, b27⟩
      have B27 := B26.trans (b27.mono B26.size)
      replace o6 := o6.below b27
      replace o7 := o7.below b27
      have S27 := b27.size
      clear b27 B26
      go_wp2_with fail
      refine (specFirstBadLink_law _ _ _ _ _ _ _ _ _ o6.ints o6.small o7.ints o7.small).mono ?_
      rintro e w28 ⟨rfl, b28⟩
      have B28 := B27.trans (b28.mono B27.size)
      replace o6 := o6.below b28
      replace o7 := o7.below b28
      have S28 := b28.size
      clear b28 B27
      go_wp2_with fail
      refine (implHashList_any _ _ _ _ _ o6.ints).mono ?_
      rintro e w' ⟨rfl, rfl⟩
      go_wp2_with fail
      refine (specHashList_any _ _ _ _ _ o6.ints).mono ?_
      rintro e w' ⟨rfl, rfl⟩
      clear o6 o7
      go_wp2_with fail
      refine (drawHashWord_any _ _ _ _ (hb1.out.below B28) hn1).mono ?_
      rintro e w29 ⟨wd, rfl, hwd, b29⟩
      have B29 := B28.trans (b29.mono B28.size)
      have S29 := b29.size
      clear b29 B28
      go_wp2_with fail
      refine (implHashWord_law _ _ (by omega)).mono ?_
      rintro e w30 ⟨rfl, b30⟩
      have B30 := B29.trans (b30.mono B29.size)
      have S30 := b30.size
      clear b30 B29
      go_wp2_with fail
      refine (specHashWord_law _ _ (by omega)).mono ?_
      rintro e w31 ⟨rfl, b31⟩
      have B31 := B30.trans (b31.mono B30.size)
      have S31 := b31.size
      clear b31 B30
      go_wp2_with fail
      refine (drawDerivedSeed_any _ _ _ _ (hb1.out.below B31) hn1).mono ?_
      rintro e w32 ⟨sd, lb, rfl, hlb, b32⟩
      have B32 := B31.trans (b32.mono B31.size)
      have S32 := b32.size
      clear b32 B31
      go_wp2_with fail
      refine (implDerivedSeed_law _ _ _ (by omega)).mono ?_
      rintro e w33 ⟨rfl, b33⟩
      have B33 := B32.trans (b33.mono B32.size)
      have S33 := b33.size
      clear b33 B32
      go_wp2_with fail
      refine (specDerivedSeed_law _ _ _ (by omega)).mono ?_
      rintro e w34 ⟨rfl, b34⟩
      have B34 := B33.trans (b34.mono B33.size)
      have S34 := b34.size
      clear b34 B33
      go_wp2
      go_ret
      exact ⟨rfl, B34⟩
end Go.Proofs.Ytfkgpccanagioaa
