/- The walk of the law FnSeals, printed by gdl.py. -/
import Derived.Test.YtfkgpccanagioaaLaw
import Derived.Test.YtfkgpccanagioaaDrawL
import Derived.Test.YtfkgpccanagioaaSealLaw
import Derived.Test.YtfkgpccanagioaaOpenSeal
namespace Go.Proofs.Ytfkgpccanagioaa
open Go.RowKit

set_option maxRecDepth 100000 in
set_option maxHeartbeats 4000000 in
theorem walk_FnSeals (a0 : Option Addr) (n0 c0 : Nat) (z0 : List Int) (a1 : Option Addr) (n1 c1 : Nat) (z1 : List Int) (w : World) (r0 : Bytes w a0 n0 z0) (m0 : n0 ≤ maxLen) (f0 : ∀ x ∈ z0, (Lit.int .u8 x).wf = true) (r1 : Bytes w a1 n1 z1) (_m1 : n1 ≤ maxLen) (f1 : ∀ x ∈ z1, (Lit.int .u8 x).wf = true) :
    Calls Try.prog 3 #[.slice a0 n0 c0, .slice a1 n1 c1] w fun e w' => e = .returned (.bool true) ∧ Below w.heap.size w w' := by
  have hb0 := Lib.hid (byt_of r0 f0)
  have hb1 := Lib.hid (byt_of r1 f1)
  have B0 := Below.refl w.heap.size w
  clear r0 f0 r1 f1
  go_enter Try.func3, Try.ntmps3
  go_wp2_with fail
  refine (big_any _ _ _ _ _ _ _ m0).mono ?_
  rintro e w' ⟨rfl, rfl⟩
  cases hbig : bigB n0 n1
  case true =>
    clear hbig
    go_wp2
    go_ret
    exact ⟨rfl, B0⟩
  have hbg := bigB_of hbig
  have hn0 := hbg.1
  have hn1 := hbg.2
  clear hbig hbg m0
  go_wp2_with fail
  refine (drawSealSeed_any _ _ _ _ (hb0.out.below B0) hn0).mono ?_
  rintro e w1 ⟨sd, nc, rfl, b1⟩
  have B1 := B0.trans (b1.mono B0.size)
  have S1 := b1.size
  clear b1 B0
  go_wp2_with fail
  refine (implSealSeed_any _ _ _).mono ?_
  rintro e w2 ⟨rfl, b2⟩
  have B2 := B1.trans (b2.mono B1.size)
  have S2 := b2.size
  clear b2 B1
  go_wp2_with fail
  refine (specSealSeed_any _ _ _).mono ?_
  rintro e w3 ⟨rfl, b3⟩
  have B3 := B2.trans (b3.mono B2.size)
  have S3 := b3.size
  clear b3 B2
  have HO := Lib.hid (fun h => open_seal (a := sd) (b := nc) h)
  cases hT : twoB sd nc
  · clear hT HO
    go_wp2_with fail
    refine (drawSealParts_any _ _ _ _ (hb0.out.below B3) hn0).mono ?_
    rintro e w4 ⟨A2, m2, c2, xs, A3, m3, c3, ys, rfl, hm2, hm3, ol, om, b4⟩
    have B4 := B3.trans (b4.mono B3.size)
    have S4 := b4.size
    clear b4 B3
    go_wp2_with fail
    refine (implSealParts_law _ _ _ _ _ _ _ _ _ ol.ints ol.small om.ints om.small).mono ?_
    rintro e w5 ⟨A4, c4, rfl, o4, b5⟩
    have B5 := B4.trans (b5.mono B4.size)
    replace ol := ol.below b5
    replace om := om.below b5
    have S5 := b5.size
    clear b5 B4
    go_wp2_with fail
    refine (specSealParts_law _ _ _ _ _ _ _ _ _ ol.ints ol.small om.ints om.small).mono ?_
    rintro e w6 ⟨A5, c5, rfl, o5, b6⟩
    have B6 := B5.trans (b6.mono B5.size)
    replace ol := ol.below b6
    replace om := om.below b6
    replace o4 := o4.below b6
    have S6 := b6.size
    clear b6 B5
    go_wp2_with fail
    refine (sameInts_any _ _ _ _ _ _ _ o4.ints o5.ints o4.small).mono ?_
    rintro e w7 ⟨rfl, b7⟩
    have B7 := B6.trans (b7.mono B6.size)
    replace ol := ol.below b7
    replace om := om.below b7
    replace o4 := o4.below b7
    replace o5 := o5.below b7
    have S7 := b7.size
    clear b7 B6
    have hlen := Lib.hid ol.own.len
    have HSP := Lib.hid (fun h => seal_parts (ps := xs) (ns := ys) h)
    cases hP : partsB xs ys
    · clear hP HSP hlen
      clear ol om o4 o5
      go_wp2_with fail
      refine (drawFirstBadPart_any _ _ _ _ (hb1.out.below B7) hn1).mono ?_
      rintro e w8 ⟨A6, m6, c6, ss6, A7, m7, c7, xs7, A8, m8, c8, ys8, rfl, o6, o7, o8, b8⟩
      have B8 := B7.trans (b8.mono B7.size)
      have S8 := b8.size
      clear b8 B7
      go_wp2_with fail
      refine (implFirstBadPart_law _ _ _ _ _ _ _ _ _ _ _ _ _ o6.ints o6.small o7.ints o7.small o8.ints o8.small).mono ?_
      rintro e w9 ⟨rfl, b9⟩
      have B9 := B8.trans (b9.mono B8.size)
      replace o6 := o6.below b9
      replace o7 := o7.below b9
      replace o8 := o8.below b9
      have S9 := b9.size
      clear b9 B8
      go_wp2_with fail
      refine (specFirstBadPart_law _ _ _ _ _ _ _ _ _ _ _ _ _ o6.ints o6.small o7.ints o7.small o8.ints o8.small).mono ?_
      rintro e w10 ⟨rfl, b10⟩
      have B10 := B9.trans (b10.mono B9.size)
      replace o6 := o6.below b10
      replace o7 := o7.below b10
      replace o8 := o8.below b10
      have S10 := b10.size
      clear b10 B9
      clear o6 o7 o8
      go_wp2_with fail
      refine (drawJointSeed_any _ _ _ _ (hb1.out.below B10) hn1).mono ?_
      rintro e w11 ⟨A9, m9, c9, xs9, rfl, hm9, o9, b11⟩
      have B11 := B10.trans (b11.mono B10.size)
      have S11 := b11.size
      clear b11 B10
      go_wp2_with fail
      refine (implJointSeed_law _ _ _ _ _ o9.ints o9.small).mono ?_
      rintro e w12 ⟨rfl, b12⟩
      have B12 := B11.trans (b12.mono B11.size)
      replace o9 := o9.below b12
      have S12 := b12.size
      clear b12 B11
      go_wp2_with fail
      refine (specJointSeed_law _ _ _ _ _ o9.ints o9.small).mono ?_
      rintro e w13 ⟨rfl, b13⟩
      have B13 := B12.trans (b13.mono B12.size)
      replace o9 := o9.below b13
      have S13 := b13.size
      clear b13 B12
      go_wp2
      go_ret
      exact ⟨rfl, B13⟩
    · have hsp := HSP.out hP
      have HV := Lib.hid hsp.1
      have HW := Lib.hid hsp.2
      clear hP hsp HSP
      go_wp2_with fail
      refine (implFirstBadPart_law _ _ _ _ _ _ _ _ _ _ _ _ _ o4.ints o4.small ol.ints ol.small om.ints om.small).mono ?_
      rintro e w14 ⟨rfl, b14⟩
      have B14 := B7.trans (b14.mono B7.size)
      replace ol := ol.below b14
      replace om := om.below b14
      replace o4 := o4.below b14
      replace o5 := o5.below b14
      have S14 := b14.size
      clear b14 B7
      rw [HV.out, HW.out, hlen.out]
      clear HV HW hlen
      clear ol om o4 o5
      go_wp2_with fail
      refine (drawFirstBadPart_any _ _ _ _ (hb1.out.below B14) hn1).mono ?_
      rintro e w15 ⟨A6, m6, c6, ss6, A7, m7, c7, xs7, A8, m8, c8, ys8, rfl, o6, o7, o8, b15⟩
      have B15 := B14.trans (b15.mono B14.size)
      have S15 := b15.size
      clear b15 B14
      go_wp2_with fail
      refine (implFirstBadPart_law _ _ _ _ _ _ _ _ _ _ _ _ _ o6.ints o6.small o7.ints o7.small o8.ints o8.small).mono ?_
      rintro e w16 ⟨rfl, b16⟩
      have B16 := B15.trans (b16.mono B15.size)
      replace o6 := o6.below b16
      replace o7 := o7.below b16
      replace o8 := o8.below b16
      have S16 := b16.size
      clear b16 B15
      go_wp2_with fail
      refine (specFirstBadPart_law _ _ _ _ _ _ _ _ _ _ _ _ _ o6.ints o6.small o7.ints o7.small o8.ints o8.small).mono ?_
      rintro e w17 ⟨rfl, b17⟩
      have B17 := B16.trans (b17.mono B16.size)
      replace o6 := o6.below b17
      replace o7 := o7.below b17
      replace o8 := o8.below b17
      have S17 := b17.size
      clear b17 B16
      clear o6 o7 o8
      go_wp2_with fail
      refine (drawJointSeed_any _ _ _ _ (hb1.out.below B17) hn1).mono ?_
      rintro e w18 ⟨A9, m9, c9, xs9, rfl, hm9, o9, b18⟩
      have B18 := B17.trans (b18.mono B17.size)
      have S18 := b18.size
      clear b18 B17
      go_wp2_with fail
      refine (implJointSeed_law _ _ _ _ _ o9.ints o9.small).mono ?_
      rintro e w19 ⟨rfl, b19⟩
      have B19 := B18.trans (b19.mono B18.size)
      replace o9 := o9.below b19
      have S19 := b19.size
      clear b19 B18
      go_wp2_with fail
      refine (specJointSeed_law _ _ _ _ _ o9.ints o9.small).mono ?_
      rintro e w20 ⟨rfl, b20⟩
      have B20 := B19.trans (b20.mono B19.size)
      replace o9 := o9.below b20
      have S20 := b20.size
      clear b20 B19
      go_wp2
      go_ret
      exact ⟨rfl, B20⟩
  · have HT := Lib.hid hT
    have HO2 := Lib.hid (HO.out hT)
    clear hT HO
    go_wp2_with fail
    refine (implOpenSeal_any _ _ _ _).mono ?_
    rintro e w21 ⟨rfl, b21⟩
    have B21 := B3.trans (b21.mono B3.size)
    have S21 := b21.size
    clear b21 B3
    rw [HO2.out, HT.out]
    clear HO2 HT
    go_wp2_with fail
    refine (drawSealParts_any _ _ _ _ (hb0.out.below B21) hn0).mono ?_
    rintro e w22 ⟨A2, m2, c2, xs, A3, m3, c3, ys, rfl, hm2, hm3, ol, om, b22⟩
    have B22 := B21.trans (b22.mono B21.size)
    have S22 := b22.size
    clear b22 B21
    go_wp2_with fail
    refine (implSealParts_law _ _ _ _ _ _ _ _ _ ol.ints ol.small om.ints om.small).mono ?_
    rintro e w23 ⟨A4, c4, rfl, o4, b23⟩
    have B23 := B22.trans (b23.mono B22.size)
    replace ol := ol.below b23
    replace om := om.below b23
    have S23 := b23.size
    clear b23 B22
    go_wp2_with fail
    refine (specSealParts_law _ _ _ _ _ _ _ _ _ ol.ints ol.small om.ints om.small).mono ?_
    rintro e w24 ⟨A5, c5, rfl, o5, b24⟩
    have B24 := B23.trans (b24.mono B23.size)
    replace ol := ol.below b24
    replace om := om.below b24
    replace o4 := o4.below b24
    have S24 := b24.size
    clear b24 B23
    go_wp2_with fail
    refine (sameInts_any _ _ _ _ _ _ _ o4.ints o5.ints o4.small).mono ?_
    rintro e w25 ⟨rfl, b25⟩
    have B25 := B24.trans (b25.mono B24.size)
    replace ol := ol.below b25
    replace om := om.below b25
    replace o4 := o4.below b25
    replace o5 := o5.below b25
    have S25 := b25.size
    clear b25 B24
    have hlen := Lib.hid ol.own.len
    have HSP := Lib.hid (fun h => seal_parts (ps := xs) (ns := ys) h)
    cases hP : partsB xs ys
    · clear hP HSP hlen
      clear ol om o4 o5
      go_wp2_with fail
      refine (drawFirstBadPart_any _ _ _ _ (hb1.out.below B25) hn1).mono ?_
      rintro e w26 ⟨A6, m6, c6, ss6, A7, m7, c7, xs7, A8, m8, c8, ys8, rfl, o6, o7, o8, b26⟩
      have B26 := B25.trans (b26.mono B25.size)
      have S26 := b26.size
      clear b26 B25
      go_wp2_with fail
      refine (implFirstBadPart_law _ _ _ _ _ _ _ _ _ _ _ _ _ o6.ints o6.small o7.ints o7.small o8.ints o8.small).mono ?_
      rintro e w27 ⟨rfl, b27⟩
      have B27 := B26.trans (b27.mono B26.size)
      replace o6 := o6.below b27
      replace o7 := o7.below b27
      replace o8 := o8.below b27
      have S27 := b27.size
      clear b27 B26
      go_wp2_with fail
      refine (specFirstBadPart_law _ _ _ _ _ _ _ _ _ _ _ _ _ o6.ints o6.small o7.ints o7.small o8.ints o8.small).mono ?_
      rintro e w28 ⟨rfl, b28⟩
      have B28 := B27.trans (b28.mono B27.size)
      replace o6 := o6.below b28
      replace o7 := o7.below b28
      replace o8 := o8.below b28
      have S28 := b28.size
      clear b28 B27
      clear o6 o7 o8
      go_wp2_with fail
      refine (drawJointSeed_any _ _ _ _ (hb1.out.below B28) hn1).mono ?_
      rintro e w29 ⟨A9, m9, c9, xs9, rfl, hm9, o9, b29⟩
      have B29 := B28.trans (b29.mono B28.size)
      have S29 := b29.size
      clear b29 B28
      go_wp2_with fail
      refine (implJointSeed_law _ _ _ _ _ o9.ints o9.small).mono ?_
      rintro e w30 ⟨rfl, b30⟩
      have B30 := B29.trans (b30.mono B29.size)
      replace o9 := o9.below b30
      have S30 := b30.size
      clear b30 B29
      go_wp2_with fail
      refine (specJointSeed_law _ _ _ _ _ o9.ints o9.small).mono ?_
      rintro e w31 ⟨rfl, b31⟩
      have B31 := B30.trans (b31.mono B30.size)
      replace o9 := o9.below b31
      have S31 := b31.size
      clear b31 B30
      go_wp2
      go_ret
      exact ⟨rfl, B31⟩
    · have hsp := HSP.out hP
      have HV := Lib.hid hsp.1
      have HW := Lib.hid hsp.2
      clear hP hsp HSP
      go_wp2_with fail
      refine (implFirstBadPart_law _ _ _ _ _ _ _ _ _ _ _ _ _ o4.ints o4.small ol.ints ol.small om.ints om.small).mono ?_
      rintro e w32 ⟨rfl, b32⟩
      have B32 := B25.trans (b32.mono B25.size)
      replace ol := ol.below b32
      replace om := om.below b32
      replace o4 := o4.below b32
      replace o5 := o5.below b32
      have S32 := b32.size
      clear b32 B25
      rw [HV.out, HW.out, hlen.out]
      clear HV HW hlen
      clear ol om o4 o5
      go_wp2_with fail
      refine (drawFirstBadPart_any _ _ _ _ (hb1.out.below B32) hn1).mono ?_
      rintro e w33 ⟨A6, m6, c6, ss6, A7, m7, c7, xs7, A8, m8, c8, ys8, rfl, o6, o7, o8, b33⟩
      have B33 := B32.trans (b33.mono B32.size)
      have S33 := b33.size
      clear b33 B32
      go_wp2_with fail
      refine (implFirstBadPart_law _ _ _ _ _ _ _ _ _ _ _ _ _ o6.ints o6.small o7.ints o7.small o8.ints o8.small).mono ?_
      rintro e w34 ⟨rfl, b34⟩
      have B34 := B33.trans (b34.mono B33.size)
      replace o6 := o6.below b34
      replace o7 := o7.below b34
      replace o8 := o8.below b34
      have S34 := b34.size
      clear b34 B33
      go_wp2_with fail
      refine (specFirstBadPart_law _ _ _ _ _ _ _ _ _ _ _ _ _ o6.ints o6.small o7.ints o7.small o8.ints o8.small).mono ?_
      rintro e w35 ⟨rfl, b35⟩
      have B35 := B34.trans (b35.mono B34.size)
      replace o6 := o6.below b35
      replace o7 := o7.below b35
      replace o8 := o8.below b35
      have S35 := b35.size
      clear b35 B34
      clear o6 o7 o8
      go_wp2_with fail
      refine (drawJointSeed_any _ _ _ _ (hb1.out.below B35) hn1).mono ?_
      rintro e w36 ⟨A9, m9, c9, xs9, rfl, hm9, o9, b36⟩
      have B36 := B35.trans (b36.mono B35.size)
      have S36 := b36.size
      clear b36 B35
      go_wp2_with fail
      refine (implJointSeed_law _ _ _ _ _ o9.ints o9.small).mono ?_
      rintro e w37 ⟨rfl, b37⟩
      have B37 := B36.trans (b37.mono B36.size)
      replace o9 := o9.below b37
      have S37 := b37.size
      clear b37 B36
      go_wp2_with fail
      refine (specJointSeed_law _ _ _ _ _ o9.ints o9.small).mono ?_
      rintro e w38 ⟨rfl, b38⟩
      have B38 := B37.trans (b38.mono B37.size)
      replace o9 := o9.below b38
      have S38 := b38.size
      clear b38 B37
      go_wp2
      go_ret
      exact ⟨rfl, B38⟩
end Go.Proofs.Ytfkgpccanagioaa
